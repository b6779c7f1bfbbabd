/- ViewA, ViewB, ViewC, ViewD in one text. -/
import Derived.Handy
import Derived.Test.YtpkfdoefpmgfiaaMemX
import Derived.Test.YtpkfdoefpmgfiaaPlanF
namespace Go.Proofs.Ytpkfdoefpmgfiaa.Vw
open Go Go.RowKit Go.Proofs.Ytpkfdoefpmgfiaa.ML Go.Proofs.Ytpkfdoefpmgfiaa.Mem Go.Proofs.YtpkfdoefpmgfiaaW.PrintWords
set_option linter.unusedVariables false
set_option linter.unusedSimpArgs false
theorem nt : MT Try.prog 63 3 4 := ⟨Try.underlying63, Try.underlying3⟩
theorem zrunB (w : World) : (zeroValue 4).run Try.prog w = .ok (.bool false) w := by kernel_rfl
noncomputable def ekb : EK Try.prog 4 Bool := ekBool Try.underlying4 zrunB
structure Vp where
  p : Nat
  bo : Nat
  bs : Nat
  bm : Nat
  ba : Option Nat
  bn : Option Nat
structure VS where
  own : List (Int × Int)
  seen : List (Int × Bool)
  mine : List (Int × Bool)
  away : List (Int × Bool)
  awayN : List (Int × Bool)
abbrev vptr (q : Vp) : Value := .pointer (some ⟨q.p, 0, none⟩)
def Vp.list (q : Vp) : List Nat := [q.p, q.bo, q.bs, q.bm] ++ q.ba.toList ++ q.bn.toList
def IsMo (w : World) (o : Option Nat) (m : List (Int × Bool)) : Prop := match o with | none => m = [] | some b => IsM ekb 3 w b m
theorem IsMo.lt {w : World} {o : Option Nat} {m : List (Int × Bool)} (h : IsMo w o m) : ∀ b ∈ o.toList, b < w.heap.size := by
  intro b hb
  cases o with
  | none => cases hb
  | some c =>
    obtain rfl : b = c := by simpa using hb
    exact IsM.lt h
theorem IsMo.block {w w' : World} {o : Option Nat} {m : List (Int × Bool)} (h : IsMo w o m) (hb : ∀ b ∈ o.toList, w'.heap[b]? = w.heap[b]?) : IsMo w' o m := by
  cases o with
  | none => exact h
  | some c => exact IsM.block (x := ekb) h (hb c (by simp))
structure VS.Ok (V : VS) : Prop where
  own : ∀ y ∈ V.own, 0 ≤ y.1 ∧ y.1 < 2824 ∧ okw y.2
  seen : ∀ y ∈ V.seen, 0 ≤ y.1 ∧ y.1 < 24
  mine : ∀ y ∈ V.mine, 0 ≤ y.1 ∧ y.1 < 24
structure IsView (w : World) (q : Vp) (f : Fp) (V : VS) : Prop where
  ok : V.Ok
  cells : w.heap[q.p]? = some (.cells #[.pointer (some ⟨f.p, 0, none⟩), .map (some q.bo), .map (some q.bs), .map (some q.bm), .map q.ba, .map q.bn] 65 (0, 0))
  own : IsM ek 3 w q.bo V.own
  seen : IsM ekb 3 w q.bs V.seen
  mine : IsM ekb 3 w q.bm V.mine
  away : IsMo w q.ba V.away
  awayN : IsMo w q.bn V.awayN
  os : q.bo ≠ q.bs
  om : q.bo ≠ q.bm
  sm : q.bs ≠ q.bm
  apart : ∀ b ∈ q.ba.toList ++ q.bn.toList, b ≠ q.bo ∧ b ≠ q.bs ∧ b ≠ q.bm
theorem IsView.lts {w : World} {q : Vp} {f : Fp} {V : VS} (h : IsView w q f V) : ∀ b ∈ q.list, b < w.heap.size := by
  intro b hb
  simp only [Vp.list, List.mem_append, List.mem_cons, List.not_mem_nil, or_false] at hb
  rcases hb with ((rfl | rfl | rfl | rfl) | hb) | hb
  · exact (Array.getElem?_eq_some_iff.1 h.cells).1
  · exact h.own.lt
  · exact h.seen.lt
  · exact h.mine.lt
  · exact h.away.lt b hb
  · exact h.awayN.lt b hb
theorem IsView.of_blocks {w w' : World} {q : Vp} {f : Fp} {V : VS} (h : IsView w q f V) (hb : ∀ b ∈ q.list, w'.heap[b]? = w.heap[b]?) : IsView w' q f V :=
  ⟨h.ok, (hb q.p (by simp [Vp.list])).trans h.cells, h.own.block (hb _ (by simp [Vp.list])), h.seen.block (hb _ (by simp [Vp.list])), h.mine.block (hb _ (by simp [Vp.list])),
    h.away.block fun b hm => hb b (by simp only [Vp.list, List.mem_append]; exact .inl (.inr hm)), h.awayN.block fun b hm => hb b (by simp only [Vp.list, List.mem_append]; exact .inr hm), h.os, h.om, h.sm, h.apart⟩
theorem IsView.kept {w w' : World} {q : Vp} {f : Fp} {V : VS} (h : IsView w q f V) {L : List Nat} (ht : Turn L w w') (hL : ∀ b ∈ q.list, b ∉ L) : IsView w' q f V :=
  h.of_blocks fun b hb => ht.block b (h.lts b hb) (hL b hb)
theorem IsView.below {w w' : World} {q : Vp} {f : Fp} {V : VS} (h : IsView w q f V) (hb : Below w.heap.size w w') : IsView w' q f V :=
  h.of_blocks fun b hm => hb.block b (h.lts b hm)
theorem IsView.own_len {w : World} {q : Vp} {f : Fp} {V : VS} (h : IsView w q f V) : V.own.length ≤ 2824 :=
  length_le (n := 2824) (lo := 0) (h.own.sorted mt) fun x hx => ⟨(h.ok.own x hx).1, by have := (h.ok.own x hx).2.1; omega⟩
/-- What a walk is handed. -/
structure IsView.Facts (w : World) (q : Vp) (f : Fp) : Prop where
  c0 : w.cell? ⟨q.p, 0, none⟩ = some (.pointer (some ⟨f.p, 0, none⟩))
  c1 : w.cell? ⟨q.p, 1, none⟩ = some (.map (some q.bo))
  c2 : w.cell? ⟨q.p, 2, none⟩ = some (.map (some q.bs))
  c3 : w.cell? ⟨q.p, 3, none⟩ = some (.map (some q.bm))
  c4 : w.cell? ⟨q.p, 4, none⟩ = some (.map q.ba)
  c5 : w.cell? ⟨q.p, 5, none⟩ = some (.map q.bn)
  fz : ∀ o, w.frozen? ⟨q.p, o, none⟩ = false
theorem IsView.facts {w : World} {q : Vp} {f : Fp} {V : VS} (h : IsView w q f V) : IsView.Facts w q f :=
  ⟨cell_of h.cells rfl, cell_of h.cells rfl, cell_of h.cells rfl, cell_of h.cells rfl, cell_of h.cells rfl, cell_of h.cells rfl, fun _ => frozen_of h.cells⟩
/-- A word as the view has it. -/
def VS.read (V : VS) (S : MS) (i : Int) : Int := (get V.own i).getD (S.read i)
set_option maxHeartbeats 400000 in
theorem Read_calls {w : World} {q : Vp} {f : Fp} {V : VS} {S : MS} (h : IsView w q f V) (hm : IsMem w f S) (i : Int) (hi : oki i) : Calls Try.prog 29 #[vptr q, .int .i64 i] w fun e w' => e = .returned (.int .u64 (V.read S i)) ∧ w = w' := by
  have hr := Mem.Read_calls hm i hi
  have H := h.facts
  have c0 := H.c0
  have c1 := H.c1
  have HL := Aside0.mk h.own
  have HI := Aside0.mk hi
  unfold VS.read
  cases hg : get V.own i with
  | some v =>
    have HG := Aside0.mk hg
    clear H h hg hi hr
    go_enter Try.func29, Try.ntmps29
    go_wp2_with (at_lookup; refine lookU_some rfl _ _ rfl rfl HL.out i rfl HI.out v HG.out ?_)
    go_ret
    exact ⟨rfl, rfl⟩
  | none =>
    have HG := Aside0.mk hg
    clear H h hg hi
    go_enter Try.func29, Try.ntmps29
    go_wp2_with (first
      | (at_lookup; refine lookU_none rfl _ _ rfl rfl HL.out i rfl HI.out HG.out ?_)
      | (go_at_call 20; refine hr.mono ?_; rintro e w' ⟨rfl, rfl⟩))
    go_ret
    exact ⟨rfl, rfl⟩
theorem Read_as {w : World} {q : Vp} {f : Fp} {V : VS} {S : MS} (h : IsView w q f V) (hm : IsMem w f S) (i : Int) (hi : oki i) (v : Int) (hv : V.read S i = v) : Calls Try.prog 29 #[vptr q, .int .i64 i] w fun e w' => e = .returned (.int .u64 v) ∧ w = w' := by
  rw [← hv]
  exact Read_calls h hm i hi
/-- Is a number noted? -/
def noted (m : List (Int × Bool)) (i : Int) : Bool := (get m i).getD false
section
variable {ops : Array Oper} {rest : List Oper} {o : Oper} {a : Act} {Q : Exit → Act → World → Prop} {w : World}
theorem lookB (hg : o.guard = none) (mo xo : Operand) (b : Option Nat) (m : List (Int × Bool)) (hop : o.op = Op.lookup 63 mo xo false) (hm : a.eval mo = .map b) (h : IsMo w b m) (key : Int) (hx : a.eval xo = .int .i64 key) (hkey : oki key)
    (hK : wpList Try.prog ops Q rest (a.put o.dst (.bool (noted m key))) w) : wpList Try.prog ops Q (o :: rest) a w := by
  cases b with
  | none =>
    have hm0 : m = [] := h
    subst hm0
    refine wpList_plain hg fun K hK' => ?_
    unfold Oper.wp execOp
    simp only [hop, hm, hx]
    have := run_look_nil nt ekb w key (oki_wf hkey) false
    simp only [Sem.run_bind, this, Result.andThen_ok, Sem.run_pure]
    exact hK' _ _ hK
  | some b => exact wp_look (x := ekb) nt hg mo xo hop hm h key hx (oki_wf hkey) hK
end
set_option maxHeartbeats 400000 in
theorem Avoids_calls {w : World} {q : Vp} {f : Fp} {V : VS} (h : IsView w q f V) (i : Int) (hi : oki i) : Calls Try.prog 47 #[vptr q, .int .i64 i] w fun e w' => e = .returned (.bool (noted V.away i)) ∧ w = w' := by
  have c4 := h.facts.c4
  have HL := Aside0.mk h.away
  have HI := Aside0.mk hi
  clear h hi
  go_enter Try.func47, Try.ntmps47
  go_wp2_with (at_lookup; refine gate_guard (by rfl) ?_; dsimp only; refine lookB rfl _ _ _ _ rfl rfl HL.out i rfl HI.out ?_)
  go_ret
  exact ⟨rfl, rfl⟩
set_option maxHeartbeats 400000 in
theorem AvoidsNode_calls {w : World} {q : Vp} {f : Fp} {V : VS} (h : IsView w q f V) (i : Int) (hi : oki i) : Calls Try.prog 30 #[vptr q, .int .i64 i] w fun e w' => e = .returned (.bool (noted V.awayN i)) ∧ w = w' := by
  have c5 := h.facts.c5
  have HL := Aside0.mk h.awayN
  have HI := Aside0.mk hi
  clear h hi
  go_enter Try.func30, Try.ntmps30
  go_wp2_with (at_lookup; refine gate_guard (by rfl) ?_; dsimp only; refine lookB rfl _ _ _ _ rfl rfl HL.out i rfl HI.out ?_)
  go_ret
  exact ⟨rfl, rfl⟩
end Go.Proofs.Ytpkfdoefpmgfiaa.Vw
namespace Go.Proofs.Ytpkfdoefpmgfiaa.Vw
open Go Go.RowKit Go.Proofs.Ytpkfdoefpmgfiaa.ML Go.Proofs.Ytpkfdoefpmgfiaa.Mem Go.Proofs.Ytpkfdoefpmgfiaa.Print Go.Proofs.YtpkfdoefpmgfiaaW.PrintWords Go.Proofs.YtpkfdoefpmgfiaaW.PrintLast Go.Proofs.YtpkfdoefpmgfiaaW.PrintMore
set_option linter.unusedVariables false
set_option linter.unusedSimpArgs false
theorem mRead_as {w : World} {f : Fp} {S : MS} (h : IsMem w f S) (i : Int) (hi : oki i) (v : Int) (hv : S.read i = v) : Calls Try.prog 20 #[ptr f, .int .i64 i] w fun e w' => e = .returned (.int .u64 v) ∧ w = w' := by
  rw [← hv]
  exact Mem.Read_calls h i hi
theorem Avoids_as {w : World} {q : Vp} {f : Fp} {V : VS} (h : IsView w q f V) (i : Int) (hi : oki i) (b : Bool) (hb : noted V.away i = b) : Calls Try.prog 47 #[vptr q, .int .i64 i] w fun e w' => e = .returned (.bool b) ∧ w = w' := by
  rw [← hb]
  exact Avoids_calls h i hi
/-- Is a block free for the view? -/
def VS.fresh (V : VS) (S : MS) (i : Int) : Bool := decide (0 ≤ i ∧ i < 96) && (S.read (200 + i) == 0) && (V.read S (200 + i) == 0) && !noted V.away i
set_option maxHeartbeats 1000000 in
theorem Fresh_calls {w : World} {q : Vp} {f : Fp} {V : VS} {S : MS} (h : IsView w q f V) (hm : IsMem w f S) (i : Int) (hi : oki i) : Calls Try.prog 32 #[vptr q, .int .i64 i] w fun e w' => e = .returned (.bool (V.fresh S i)) ∧ Below w.heap.size w w' := by
  unfold VS.fresh
  by_cases hr : 0 ≤ i ∧ i < 96
  · rw [decide_eq_true hr]
    have ho := plan_Owner.calls 7 i (200 + i) 0 w (by rw [PlanF.Owner_f, PlanF.Owner, if_pos hr])
    have HI := Aside0.mk hi
    have HR := Aside0.mk hr
    obtain ⟨x, hx⟩ : ∃ x, S.read (200 + i) = x := ⟨_, rfl⟩
    obtain ⟨y, hy⟩ : ∃ y, V.read S (200 + i) = y := ⟨_, rfl⟩
    obtain ⟨z, hz⟩ : ∃ z, noted V.away i = z := ⟨_, rfl⟩
    rw [hx, hy, hz]
    have HX := Aside0.mk hx
    have HY := Aside0.mk hy
    have HZ := Aside0.mk hz
    have HV := Aside0.mk h
    have HM := Aside0.mk hm
    clear hx hy hz hi hr h hm
    cases h1 : (x == 0)
    · go_enter Try.func32, Try.ntmps32
      go_wp2_with (first
        | (go_at_call 33; refine ho.mono ?_; rintro e w1 ⟨rfl, hb⟩; have V1 := Aside0.mk (HV.out.below hb); have M1 := Aside0.mk (HM.out.below hb); have B1 := Aside0.mk hb; have c0 := V1.out.facts.c0; clear hb)
        | (go_at_call 20; refine (mRead_as M1.out _ (by have := HR.out; unfold oki; omega) x HX.out).mono ?_; rintro e w2 ⟨rfl, rfl⟩))
      go_ret
      exact ⟨rfl, B1.out⟩
    · cases h2 : (y == 0)
      · go_enter Try.func32, Try.ntmps32
        go_wp2_with (first
          | (go_at_call 33; refine ho.mono ?_; rintro e w1 ⟨rfl, hb⟩; have V1 := Aside0.mk (HV.out.below hb); have M1 := Aside0.mk (HM.out.below hb); have B1 := Aside0.mk hb; have c0 := V1.out.facts.c0; clear hb)
          | (go_at_call 20; refine (mRead_as M1.out _ (by have := HR.out; unfold oki; omega) x HX.out).mono ?_; rintro e w2 ⟨rfl, rfl⟩)
          | (go_at_call 29; refine (Read_as V1.out M1.out _ (by have := HR.out; unfold oki; omega) y HY.out).mono ?_; rintro e w2 ⟨rfl, rfl⟩))
        go_ret
        exact ⟨rfl, B1.out⟩
      · go_enter Try.func32, Try.ntmps32
        go_wp2_with (first
          | (go_at_call 33; refine ho.mono ?_; rintro e w1 ⟨rfl, hb⟩; have V1 := Aside0.mk (HV.out.below hb); have M1 := Aside0.mk (HM.out.below hb); have B1 := Aside0.mk hb; have c0 := V1.out.facts.c0; clear hb)
          | (go_at_call 20; refine (mRead_as M1.out _ (by have := HR.out; unfold oki; omega) x HX.out).mono ?_; rintro e w2 ⟨rfl, rfl⟩)
          | (go_at_call 29; refine (Read_as V1.out M1.out _ (by have := HR.out; unfold oki; omega) y HY.out).mono ?_; rintro e w2 ⟨rfl, rfl⟩)
          | (go_at_call 47; refine (Avoids_as V1.out _ HI.out z HZ.out).mono ?_; rintro e w2 ⟨rfl, rfl⟩))
        go_ret
        exact ⟨rfl, B1.out⟩
  · rw [decide_eq_false hr]
    have ho := plan_Owner.calls 7 i 0 1 w (by rw [PlanF.Owner_f, PlanF.Owner, if_neg hr])
    clear hr hi h hm
    go_enter Try.func32, Try.ntmps32
    go_wp2_with (go_at_call 33; refine ho.mono ?_; rintro e w1 ⟨rfl, hb⟩; have B1 := Aside0.mk hb; clear hb)
    go_ret
    exact ⟨rfl, B1.out⟩
theorem Fresh_as {w : World} {q : Vp} {f : Fp} {V : VS} {S : MS} (h : IsView w q f V) (hm : IsMem w f S) (i : Int) (hi : oki i) (b : Bool) (hb : V.fresh S i = b) : Calls Try.prog 32 #[vptr q, .int .i64 i] w fun e w' => e = .returned (.bool b) ∧ Below w.heap.size w w' := by
  rw [← hb]
  exact Fresh_calls h hm i hi
/-- Write. -/
def VS.put (V : VS) (i v : Int) : VS := { V with own := ML.put V.own i v }
theorem VS.put_ok {V : VS} (h : V.Ok) {i v : Int} (h0 : 0 ≤ i) (h1 : i < 2824) (hv : okw v) : (V.put i v).Ok := by
  refine ⟨fun y hy => ?_, h.seen, h.mine⟩
  rcases mem_ins.1 hy with rfl | hy
  · exact ⟨h0, h1, hv⟩
  · exact h.own y (List.mem_filter.1 hy).1
theorem IsView.turnOwn {w w' : World} {q : Vp} {f : Fp} {V : VS} (h : IsView w q f V) {i v : Int} (h0 : 0 ≤ i) (h1 : i < 2824) (hv : okw v) (ht : w.mapTurned w' q.bo) (hm : IsM ek 3 w' q.bo (ML.put V.own i v)) : IsView w' q f (V.put i v) ∧ Turn [q.bo] w w' := by
  have t := Turn.of_grown (turned_of ht)
  have hp : q.p ≠ q.bo := h.own.ne_cells h.cells
  have kb : ∀ b, b < w.heap.size → b ≠ q.bo → w'.heap[b]? = w.heap[b]? := fun b hb hn => t.block b hb (by simpa using hn)
  refine ⟨⟨VS.put_ok h.ok h0 h1 hv, (kb _ (h.lts _ (by simp [Vp.list])) hp).trans h.cells, hm, h.seen.block (kb _ h.seen.lt h.os.symm), h.mine.block (kb _ h.mine.lt h.om.symm),
    h.away.block fun b hb => kb b (h.away.lt b hb) (h.apart b (List.mem_append.2 (.inl hb))).1, h.awayN.block fun b hb => kb b (h.awayN.lt b hb) (h.apart b (List.mem_append.2 (.inr hb))).1, h.os, h.om, h.sm, h.apart⟩, t⟩
set_option maxHeartbeats 1000000 in
theorem Write_calls {w : World} {q : Vp} {f : Fp} {V : VS} (h : IsView w q f V) (i v : Int) (hi : oki i) (hv : okw v) : Calls Try.prog 34 #[vptr q, .int .i64 i, .int .u64 v] w fun e w' =>
    e = .returned (.int .i64 (if PlanF.openB i then 0 else 1)) ∧ IsView w' q f (if PlanF.openB i then V.put i v else V) ∧ Turn [q.bo] w w' := by
  have ho := plan_Open.calls 7 i (PlanF.openB i) w (PlanF.Open_f i hi.1 hi.2)
  cases hb : PlanF.openB i
  · rw [hb] at ho
    have HV := Aside0.mk h
    clear h
    go_enter Try.func34, Try.ntmps34
    go_wp2_with (go_at_call 48; refine ho.mono ?_; rintro e w1 ⟨rfl, hb⟩; have B1 := Aside0.mk hb; clear hb)
    go_ret
    exact ⟨rfl, HV.out.below B1.out, Turn.of_below B1.out _⟩
  · rw [hb] at ho
    have hr : 0 ≤ i ∧ i < 2824 := by unfold PlanF.openB at hb; have := of_decide_eq_true hb; omega
    have HR := Aside0.mk hr
    have HV := Aside0.mk h
    have HI := Aside0.mk hi
    have HW := Aside0.mk hv
    clear h hr hi hv
    go_enter Try.func34, Try.ntmps34
    go_wp2_with (first
      | (go_at_call 48; refine ho.mono ?_; rintro e w1 ⟨rfl, hb⟩; have V1 := Aside0.mk (HV.out.below hb); have B1 := Aside0.mk hb; have c1 := V1.out.facts.c1; clear hb)
      | (at_mapUpdate; refine wp_put (x := ek) mt rfl _ _ _ rfl rfl V1.out.own (by have := V1.out.own_len; omega) i v rfl rfl (oki_wf HI.out) (okw_wf HW.out) ?_; intro w2 hm2 ht2; obtain ⟨r1, r2⟩ := V1.out.turnOwn HR.out.1 HR.out.2 HW.out ht2 hm2; have R1 := Aside0.mk r1; have R2 := Aside0.mk r2; clear r1 r2 hm2 ht2))
    go_ret
    exact ⟨rfl, R1.out, (Turn.of_below B1.out _).trans R2.out⟩
end Go.Proofs.Ytpkfdoefpmgfiaa.Vw
namespace Go.Proofs.Ytpkfdoefpmgfiaa.Vw
open Go Go.RowKit Go.Proofs.Ytpkfdoefpmgfiaa.ML Go.Proofs.Ytpkfdoefpmgfiaa.Mem Go.Proofs.Ytpkfdoefpmgfiaa.Print Go.Proofs.YtpkfdoefpmgfiaaW.PrintWords Go.Proofs.YtpkfdoefpmgfiaaW.PrintLast Go.Proofs.YtpkfdoefpmgfiaaW.PrintMore
set_option linter.unusedVariables false
set_option linter.unusedSimpArgs false
def newV : VS := ⟨[], [], [], [], []⟩
theorem newV_ok : newV.Ok := ⟨fun y hy => by (cases hy), fun y hy => by (cases hy), fun y hy => by (cases hy)⟩
theorem made_view (w : World) (f : Fp) : ∃ q : Vp, q.p = w.heap.size + 3 ∧ (∀ b ∈ q.list, w.heap.size ≤ b) ∧ IsView ((((w.alloc (.map #[] 0)).alloc (.map #[] 0)).alloc (.map #[] 0)).alloc (.cells #[.pointer (some ⟨f.p, 0, none⟩), .map (some w.heap.size), .map (some (w.heap.size + 1)), .map (some (w.heap.size + 2)), .map none, .map none] 65 (0, 0))) q f newV := by
  have s1 : (w.alloc (.map #[] 0)).heap.size = w.heap.size + 1 := by simp
  have s2 : ((w.alloc (.map #[] 0)).alloc (.map #[] 0)).heap.size = w.heap.size + 2 := by simp
  have s3 : (((w.alloc (.map #[] 0)).alloc (.map #[] 0)).alloc (.map #[] 0)).heap.size = w.heap.size + 3 := by simp
  refine ⟨⟨w.heap.size + 3, w.heap.size, w.heap.size + 1, w.heap.size + 2, none, none⟩, rfl, fun b hb => ?_, ⟨newV_ok, ?_, ?_, ?_, ?_, rfl, rfl, by simp, by simp, by simp, fun b hb => by simp at hb⟩⟩
  · simp [Vp.list] at hb
    omega
  · have := heap_new (((w.alloc (.map #[] 0)).alloc (.map #[] 0)).alloc (.map #[] 0)) (.cells #[.pointer (some ⟨f.p, 0, none⟩), .map (some w.heap.size), .map (some (w.heap.size + 1)), .map (some (w.heap.size + 2)), .map none, .map none] 65 (0, 0))
    rw [s3] at this
    exact this
  · refine IsM.block (w := w.alloc (.map #[] 0)) (IsM.made w) ?_
    rw [heap_old _ _ (by rw [s3]; simp), heap_old _ _ (by rw [s2]; simp), heap_old _ _ (by rw [s1]; simp)]
  · have hm := IsM.made (x := ekb) (k := 3) (w.alloc (.map #[] 0))
    rw [s1] at hm
    refine IsM.block hm ?_
    rw [heap_old _ _ (by rw [s3]; simp), heap_old _ _ (by rw [s2]; simp)]
  · have hm := IsM.made (x := ekb) (k := 3) ((w.alloc (.map #[] 0)).alloc (.map #[] 0))
    rw [s2] at hm
    refine IsM.block hm ?_
    rw [heap_old _ _ (by rw [s3]; simp)]
set_option maxHeartbeats 1000000 in
theorem New_calls {w : World} {f : Fp} {S : MS} (h : IsMem w f S) (hl : (S.ws.length : Int) = 2824) : Calls Try.prog 10 #[ptr f] w fun e w' => ∃ q : Vp, e = .returned (vptr q) ∧ IsView w' q f newV ∧ (∀ b ∈ q.list, w.heap.size ≤ b) ∧ Below w.heap.size w w' := by
  have hz := Size_calls h
  have hp := fun w => plan_Size.calls 7 2824 w PlanF.size_f
  rw [hl] at hz
  have HZ := Aside0.mk hz
  have HP := Aside0.mk hp
  have hmm := @run_makeMap Try.prog
  have MV := Aside0.mk (fun w1 : World => made_view w1 f)
  clear hz hp h hl
  go_enter Try.func10, Try.ntmps10
  go_wp2_with (first
    | (go_at_call 24; refine HZ.out.mono ?_; rintro e w' ⟨rfl, rfl⟩)
    | (go_at_call 25; refine (HP.out _).mono ?_; rintro e w1 ⟨rfl, hb⟩; obtain ⟨q, q1, q2, q3⟩ := MV.out w1; have B1 := Aside0.mk hb; have Q1 := Aside0.mk q1; have Q2 := Aside0.mk q2; have Q3 := Aside0.mk q3; clear hb q1 q2 q3))
  go_ret
  exact ⟨q, by simp only [vptr, Q1.out]; rfl, Q3.out, fun b hb => Nat.le_trans B1.out.size (Q2.out b hb), (((B1.out.alloc B1.out.size _).alloc (by have := B1.out.size; simp; omega) _).alloc (by have := B1.out.size; simp; omega) _).alloc (by have := B1.out.size; simp; omega) _⟩
end Go.Proofs.Ytpkfdoefpmgfiaa.Vw
namespace Go.Proofs.Ytpkfdoefpmgfiaa.Vw
open Go Go.RowKit Go.Proofs.Ytpkfdoefpmgfiaa.ML Go.Proofs.Ytpkfdoefpmgfiaa.Mem Go.Proofs.Ytpkfdoefpmgfiaa.Print Go.Proofs.YtpkfdoefpmgfiaaW.PrintWords Go.Proofs.YtpkfdoefpmgfiaaW.PrintLast Go.Proofs.YtpkfdoefpmgfiaaW.PrintMore
set_option linter.unusedVariables false
set_option linter.unusedSimpArgs false
def noteM (l : List Int) : List (Int × Bool) := l.foldl (fun m k => ML.put m k true) []
theorem noteM_snoc (l : List Int) (k : Int) : noteM (l ++ [k]) = ML.put (noteM l) k true := by simp [noteM]
theorem noteM_len (l : List Int) : (noteM l).length ≤ l.length := by
  have : ∀ (l : List Int) (m : List (Int × Bool)), (l.foldl (fun m k => ML.put m k true) m).length ≤ m.length + l.length := by
    intro l
    induction l with
    | nil => intro m; simp
    | cons k r ih =>
      intro m
      have h1 := ih (ML.put m k true)
      have h2 := length_put m k true
      simp only [List.foldl_cons, List.length_cons]
      omega
  have := this l []
  simpa [noteM] using this
set_option maxHeartbeats 1000000 in
theorem note_calls {w : World} {A : Option Addr} {c : Nat} {l : List Int} (hr : Kd.C (Kd.int .i64) w A l.length l) (hl : l.length < 4611686018427387904) (hi : ∀ k ∈ l, oki k) :
    Calls Try.prog 26 #[.slice A l.length c] w fun e w' => ∃ b : Nat, e = .returned (.map (some b)) ∧ IsM ekb 3 w' b (noteM l) ∧ w.heap.size ≤ b ∧ Below w.heap.size w w' := by
  have hmm := @run_makeMap Try.prog
  have HR := Aside0.mk hr
  have HI := Aside0.mk hi
  have HM0 := Aside0.mk (IsM.made (x := ekb) (k := 3) w)
  have HB0 := Aside0.mk ((Below.refl w.heap.size w).alloc (Nat.le_refl _) (.map #[] 0))
  clear hr hi
  go_enter Try.func26, Try.ntmps26
  go_wp2
  go_loopw [9] (fun x wr => ∃ j : Nat, j ≤ l.length ∧ x = .int .i64 (j : Int) ∧ IsM ekb 3 wr w.heap.size (noteM (l.take j)) ∧ Below w.heap.size w wr) (fun x _ => l.length - (intOf x).toNat)
  case atStart => exact ⟨0, by omega, rfl, HM0.out, HB0.out⟩
  case round =>
    obtain ⟨j, hj, rfl, hm, hb⟩ := hrel
    have HM := Aside0.mk hm
    have HB := Aside0.mk hb
    clear hm hb
    by_cases hlt : j < l.length
    · obtain ⟨ad, hA, hx⟩ := Kd.at_int (Kd.C_below HR.out HB.out) (j : Int) (by omega) (by omega)
      obtain ⟨k, hk⟩ : ∃ k, l[j]? = some k := ⟨_, List.getElem?_eq_getElem hlt⟩
      have hkd : rd l (j : Int) = k := by unfold rd; rw [Int.toNat_natCast, List.getD_eq_getElem?_getD, hk]; rfl
      have hko := HI.out k (List.mem_of_getElem? hk)
      have ht : l.take (j + 1) = l.take j ++ [k] := by rw [List.take_add_one, hk]; rfl
      rw [hkd] at hx
      replace hx : wr.cell? (ad.add j) = some (.int .i64 k) := by simpa using hx
      subst hA
      have HK := Aside0.mk hko
      have HT := Aside0.mk ht
      clear hkd hko ht hk
      go_wp2_with (at_mapUpdate; refine wp_put (x := ekb) nt rfl _ _ _ rfl rfl HM.out (by have := noteM_len (l.take j); rw [List.length_take] at this; omega) k true rfl rfl (oki_wf HK.out) trivial ?_; intro w2 hm2 ht2; have HM2 := Aside0.mk hm2; have T2 := Aside0.mk (turned_of ht2); clear hm2 ht2)
      go_roundw
      case rel =>
        refine ⟨j + 1, by omega, by go_num, ?_, ?_⟩
        · rw [HT.out, noteM_snoc]; exact HM2.out
        · exact HB.out.grown T2.out HB.out.size (by intro b hb; simp at hb; omega)
      case measure => simp [intOf]; omega
    · obtain rfl : j = l.length := by omega
      clear hlt hj
      go_wp2
      go_ret
      exact ⟨_, rfl, by have := HM.out; rw [List.take_length] at this; exact this, Nat.le_refl _, HB.out⟩
def Vp.avoid (q : Vp) (b1 b2 : Nat) : Vp := { q with ba := some b1, bn := some b2 }
def VS.avoid (V : VS) (l1 l2 : List Int) : VS := { V with away := noteM l1, awayN := noteM l2 }
theorem IsView.setAway {w : World} {q : Vp} {f : Fp} {V : VS} (h : IsView w q f V) {b1 b2 : Nat} {l1 l2 : List Int} (h1 : IsM ekb 3 w b1 (noteM l1)) (h2 : IsM ekb 3 w b2 (noteM l2)) (n1 : ∀ b ∈ q.list, b ≠ b1) (n2 : ∀ b ∈ q.list, b ≠ b2) :
    IsView ((w.setCell ⟨q.p, 4, none⟩ (.map (some b1))).setCell ⟨q.p, 5, none⟩ (.map (some b2))) (q.avoid b1 b2) f (V.avoid l1 l2) ∧ Turn [q.p] w ((w.setCell ⟨q.p, 4, none⟩ (.map (some b1))).setCell ⟨q.p, 5, none⟩ (.map (some b2))) := by
  have t := (Turn.setCell w ⟨q.p, 4, none⟩ (.map (some b1))).trans (Turn.setCell (w.setCell ⟨q.p, 4, none⟩ (.map (some b1))) ⟨q.p, 5, none⟩ (.map (some b2)))
  have hs := heap_set_same (o := 5) (.map (some b2)) (heap_set_same (o := 4) (.map (some b1)) h.cells)
  have kb : ∀ b, b < w.heap.size → b ≠ q.p → ((w.setCell ⟨q.p, 4, none⟩ (.map (some b1))).setCell ⟨q.p, 5, none⟩ (.map (some b2))).heap[b]? = w.heap[b]? := fun b hb hn => t.block b hb (by simpa using hn)
  have no := h.own.ne_cells h.cells
  have ns := h.seen.ne_cells h.cells
  have nm := h.mine.ne_cells h.cells
  have p1 := h1.ne_cells h.cells
  have p2 := h2.ne_cells h.cells
  refine ⟨⟨⟨h.ok.own, h.ok.seen, h.ok.mine⟩, hs, h.own.block (kb _ h.own.lt no.symm), h.seen.block (kb _ h.seen.lt ns.symm), h.mine.block (kb _ h.mine.lt nm.symm), h1.block (kb _ h1.lt p1.symm), h2.block (kb _ h2.lt p2.symm), h.os, h.om, h.sm, fun b hb => ?_⟩, t⟩
  have hb' : b = b1 ∨ b = b2 := by simpa [Vp.avoid] using hb
  rcases hb' with rfl | rfl
  · exact ⟨(n1 q.bo (by simp [Vp.list])).symm, (n1 q.bs (by simp [Vp.list])).symm, (n1 q.bm (by simp [Vp.list])).symm⟩
  · exact ⟨(n2 q.bo (by simp [Vp.list])).symm, (n2 q.bs (by simp [Vp.list])).symm, (n2 q.bm (by simp [Vp.list])).symm⟩
set_option maxHeartbeats 1000000 in
theorem Avoid_calls {w : World} {q : Vp} {f : Fp} {V : VS} (h : IsView w q f V) {A1 A2 : Option Addr} {c1 c2 : Nat} {l1 l2 : List Int} (r1 : Kd.C (Kd.int .i64) w A1 l1.length l1) (r2 : Kd.C (Kd.int .i64) w A2 l2.length l2) (k1 : l1.length < 4611686018427387904) (k2 : l2.length < 4611686018427387904) (i1 : ∀ k ∈ l1, oki k) (i2 : ∀ k ∈ l2, oki k) :
    Calls Try.prog 11 #[vptr q, .slice A1 l1.length c1, .slice A2 l2.length c2] w fun e w' => e = .returned (.tuple #[]) ∧ ∃ b1 b2, w.heap.size ≤ b1 ∧ w.heap.size ≤ b2 ∧ IsView w' (q.avoid b1 b2) f (V.avoid l1 l2) ∧ Turn [q.p] w w' := by
  have HV := Aside0.mk h
  have R1 := Aside0.mk r1
  have R2 := Aside0.mk r2
  have K1 := Aside0.mk k1
  have K2 := Aside0.mk k2
  have I1 := Aside0.mk i1
  have I2 := Aside0.mk i2
  clear h r1 r2 k1 k2 i1 i2
  go_enter Try.func11, Try.ntmps11
  go_wp2_with fail
  refine (note_calls R1.out K1.out I1.out).mono ?_
  rintro e w1 ⟨b1, rfl, m1, n1, hb1⟩
  have M1 := Aside0.mk m1
  have N1 := Aside0.mk n1
  have B1 := Aside0.mk hb1
  clear m1 n1 hb1
  go_wp2_with fail
  refine (note_calls (Kd.C_below R2.out B1.out) K2.out I2.out).mono ?_
  rintro e w2 ⟨b2, rfl, m2, n2, hb2⟩
  have M2 := Aside0.mk m2
  have N2 := Aside0.mk n2
  have B2 := Aside0.mk (B1.out.trans (hb2.mono B1.out.size))
  have V2 := Aside0.mk (HV.out.below B2.out)
  have M1' := Aside0.mk (M1.out.block (hb2.block _ M1.out.lt))
  have c4 := V2.out.facts.c4
  have c5 := V2.out.facts.c5
  have f4 := V2.out.facts.fz 4
  have f5 := V2.out.facts.fz 5
  have s1 := B1.out.size
  have RES := Aside0.mk (V2.out.setAway M1'.out M2.out (fun b hb e => by have := HV.out.lts b hb; have := N1.out; omega) (fun b hb e => by have := HV.out.lts b hb; have := N2.out; omega))
  clear m2 n2 hb2
  go_wp2
  go_returns
  exact ⟨rfl, b1, b2, N1.out, Nat.le_trans s1 N2.out, RES.out.1, (Turn.of_below B2.out _).trans RES.out.2⟩
end Go.Proofs.Ytpkfdoefpmgfiaa.Vw
