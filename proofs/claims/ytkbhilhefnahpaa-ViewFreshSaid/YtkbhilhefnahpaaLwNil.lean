/- A view that is not there. -/
import Derived.Test.YtkbhilhefnahpaaLwA
import Derived.Test.YtkbhilhefnahpaaHArr
import Derived.Test.YtkbhilhefnahpaaCpX
import Derived.Test.YtkbhilhefnahpaaPrint6
namespace Go.Proofs.Ytkbhilhefnahpaa.Vw
open Go Go.RowKit Go.Proofs.Ytkbhilhefnahpaa.ML Go.Proofs.Ytkbhilhefnahpaa.Mem Go.Proofs.Ytkbhilhefnahpaa.Print Go.Proofs.YtkbhilhefnahpaaW.PrintWords Go.Proofs.YtkbhilhefnahpaaW.PrintLast Go.Proofs.YtkbhilhefnahpaaW.PrintMore
set_option linter.unusedVariables false
set_option linter.unusedSimpArgs false
structure Crd where
  k : Int
  l : Int
  s : Int
  v : Int
  d0 : Int
  d1 : Int
  d2 : Int
  d3 : Int
  d4 : Int
  m : Int
def Crd.cells (c : Crd) : List Value := [.int .i64 c.k, .int .i64 c.l, .int .i64 c.s, .int .u64 c.v, .int .i64 c.d0, .int .i64 c.d1, .int .i64 c.d2, .int .i64 c.d3, .int .i64 c.d4, .int .i64 c.m]
abbrev Crd.val (c : Crd) : Value := .agg #[.int .i64 c.k, .int .i64 c.l, .int .i64 c.s, .int .u64 c.v, .int .i64 c.d0, .int .i64 c.d1, .int .i64 c.d2, .int .i64 c.d3, .int .i64 c.d4, .int .i64 c.m]
def zeroCrd : Crd := ⟨0, 0, 0, 0, 0, 0, 0, 0, 0, 0⟩
theorem store_card {W : World} {g : Nat} {cur : Array Value} (hb : W.heap[g]? = some (.cells cur 45 (0, 0))) (hs : cur.size = 10) (c : Crd) :
    ∃ W', (Instr.storeAt 45 (.pointer (some ⟨g, 0, none⟩)) c.val).run Try.prog W = .ok () W' ∧ W'.heap[g]? = some (.cells c.cells.toArray 45 (0, 0)) ∧ Turn [g] W W' := by
  refine ⟨_, run_store_run (P := Try.prog) (o := 0) (cur := cur) 45 c.val c.cells hb rfl (by kernel_rfl) (by rw [hs]; simp [Crd.cells]) (fun q hq => by simp [Crd.cells] at hq; rcases hq with rfl | rfl | rfl | rfl | rfl | rfl | rfl | rfl | rfl | rfl <;> rfl), ?_, ?_⟩
  · obtain ⟨cur', h1, h2, h3⟩ := setCells_row c.cells 0 W cur hb (by rw [hs]; simp [Crd.cells])
    rw [h1]
    have : cur' = c.cells.toArray := by
      apply Array.ext'
      rw [h3, List.take_zero, List.nil_append, List.drop_of_length_le (by rw [Array.length_toList, hs]; simp [Crd.cells]), List.append_nil]
    rw [this]
  · obtain ⟨h1, h2, h3, h4⟩ := setCells_same g c.cells 0 W
    exact ⟨h1, h2, h3, by rw [h4]; exact Nat.le_refl _, fun k hk hn => setCells_far _ _ _ (by simpa using hn)⟩
set_option maxHeartbeats 2000000 in
set_option maxRecDepth 100000 in
theorem Card_nil (w : World) (i : Int) : Calls Try.prog 25 #[.pointer none, .int .i64 i] w fun e' w' => e' = .returned (.tuple #[zeroCrd.val, .int .i64 1]) ∧ Below w.heap.size w w' := by
  have HO := Aside0.mk (fun w => plan_Card.calls 7 i (PlanF.Card i).1 (PlanF.Card i).2 w (PlanF.Card_f i))
  have hu := Try.underlying45
  go_enter Try.func25, Try.ntmps25
  go_wp2_with (first
    | ((with_reducible refine gate_dst (N := 4) rfl ?_); refine box_event ?hg (N := 4) ?hd (cs := zeroCrd.cells.toArray) (t := 45) ?hr ?_; (case hd => rfl); (case hg => rfl); (case hr => first | (go_simp; done) | (go_simp; rfl)); intro g hg w1 hbox hb; have X1 := Aside0.mk hbox; have G1 := Aside0.mk hg; have B1 := Aside0.mk hb; clear hb hbox hg)
    | (go_at_call 54; refine (HO.out _).mono ?_; rintro e w2 ⟨rfl, hb⟩; have X2 := Aside0.mk (blk_below X1.out hb); have B2 := Aside0.mk (B1.out.trans (hb.mono B1.out.size)); clear hb)
    | ((with_reducible refine gate_store (t := 45) (p := 4) rfl ?_); obtain ⟨w6, hs, hb6, t6⟩ := store_card X2.out rfl zeroCrd; refine store_event (t := 45) (p := 4) (w1 := w6) rfl rfl rfl (pr_store_exec rfl rfl rfl hs) ?_; intro w7 hw7; rw [← hw7] at hb6 t6; have X6 := Aside0.mk hb6; have B7 := Aside0.mk (show Below w.heap.size w w7 from B2.out.trans (t6.below B2.out.size (fun x hx => by have h2 := G1.out; simp at hx; omega))); clear hs hb6 t6 hw7))
  refine bodyPost_ret (results_ct rfl _ _ g 45 zeroCrd.cells.toArray (0, 0) _ rfl X6.out hu rfl (by kernel_rfl)) rfl ?_
  exact ⟨rfl, B7.out⟩
theorem cWrite_any (w : World) (c : Crd) : Calls Try.prog 58 #[c.val] w fun e' w' => ∃ (v0_ : Value) (x : Int), e' = .returned (.tuple #[v0_, .int .i64 x]) ∧ Below w.heap.size w w' := by
  obtain ⟨k, hk⟩ := (Cp.Write_ev c.k c.l c.s c.v c.d0 c.d1 c.d2 c.d3 c.d4 c.m).rounds
  obtain ⟨l, x, hlx⟩ : ∃ l x, Cp.encR c.k c.l c.s c.v c.d0 c.d1 c.d2 c.d3 c.d4 c.m = (l, x) := ⟨_, _, rfl⟩
  rw [hlx] at hk
  refine (cards_Write.calls k c.k c.l c.s c.v c.d0 c.d1 c.d2 c.d3 c.d4 c.m l x w hk).mono ?_
  rintro e w' ⟨v, rfl, _, hb⟩
  exact ⟨v, x, rfl, hb⟩
set_option maxHeartbeats 2000000 in
set_option maxRecDepth 100000 in
theorem Set_nil (w : World) (i : Int) (c : Crd) : Calls Try.prog 28 #[.pointer none, .int .i64 i, c.val] w fun e' w' => e' = .returned (.int .i64 1) ∧ Below w.heap.size w w' := by
  have HO := Aside0.mk (fun w => plan_Card.calls 7 i (PlanF.Card i).1 (PlanF.Card i).2 w (PlanF.Card_f i))
  have hu := Try.underlying45
  go_enter Try.func28, Try.ntmps28
  go_wp2_with (first
    | ((with_reducible refine gate_dst (N := 5) rfl ?_); refine box_event ?hg (N := 5) ?hd (cs := c.cells.toArray) (t := 45) ?hr ?_; (case hd => rfl); (case hg => rfl); (case hr => first | (go_simp; done) | (go_simp; rfl)); intro g hg w1 hbox hb; have X1 := Aside0.mk hbox; have B1 := Aside0.mk hb; clear hb hbox hg)
    | (go_at_call 54; refine (HO.out _).mono ?_; rintro e w2 ⟨rfl, hb⟩; have X2 := Aside0.mk (blk_below X1.out hb); have B2 := Aside0.mk (B1.out.trans (hb.mono B1.out.size)); clear hb; have x0 := cell_of X2.out (o := 0) rfl; have x1 := cell_of X2.out (o := 1) rfl; have x2 := cell_of X2.out (o := 2) rfl; have x3 := cell_of X2.out (o := 3) rfl; have x4 := cell_of X2.out (o := 4) rfl; have x5 := cell_of X2.out (o := 5) rfl; have x6 := cell_of X2.out (o := 6) rfl; have x7 := cell_of X2.out (o := 7) rfl; have x8 := cell_of X2.out (o := 8) rfl; have x9 := cell_of X2.out (o := 9) rfl)
    | (go_at_call 58; refine (cWrite_any _ c).mono ?_; rintro e w3 ⟨v0, x, rfl, hb⟩; have B3 := Aside0.mk (B2.out.trans (hb.mono B2.out.size)); clear hb))
  go_ret
  exact ⟨rfl, B3.out⟩
theorem wtm' (n m : Int) (hm : 0 < m) (hm2 : m < 9223372036854775807) : ∃ x : Int, IntKind.i64.wrap (Int.tmod (IntKind.u64.wrap n) m) = x ∧ 0 ≤ x ∧ x < m := by
  have h0 : 0 ≤ IntKind.u64.wrap n := by simp [IntKind.wrap, IntKind.signed, IntKind.bits]; omega
  refine ⟨Int.tmod (IntKind.u64.wrap n) m, ?_, Int.tmod_nonneg _ h0, Int.tmod_lt_of_pos _ hm⟩
  have h1 := Int.tmod_nonneg m h0
  have h2 := Int.tmod_lt_of_pos (IntKind.u64.wrap n) hm
  generalize Int.tmod (IntKind.u64.wrap n) m = y at *
  simp [IntKind.wrap, IntKind.signed, IntKind.bits]
  omega
theorem newS_len (n : Int) (h0 : 0 ≤ n) (h1 : n < 2824) : ((newS n).ws.length : Int) = n := by
  unfold newS
  rw [loadS_len, List.length_replicate]
  omega
theorem mNew_other (w : World) (n : Int) (h0 : 0 ≤ n) (h1 : n < 2824) : Calls Try.prog 27 #[.int .i64 n] w fun e w' => ∃ f : Fp, e = .returned (ptr f) ∧ IsMem w' f (newS n) ∧ Below w.heap.size w w' := by
  refine (Mem.New_calls w n (by unfold oki; omega)).mono ?_
  rintro e w' ⟨f, rfl, h1, h2, h3⟩
  exact ⟨f, rfl, h1, h3⟩
set_option maxHeartbeats 4000000 in
set_option maxRecDepth 100000 in
theorem ViewNil_calls (w : World) (kd at_ v : Int) (c : Crd) (L1 L2 : Value) (n : Int) : Calls Try.prog 5 #[.agg #[.int .i64 kd, .int .i64 at_, .int .u64 v, .int .i64 c.k, .int .i64 c.l, .int .i64 c.s, .int .u64 c.v, .int .i64 c.d0, .int .i64 c.d1, .int .i64 c.d2, .int .i64 c.d3, .int .i64 c.d4, .int .i64 c.m, L1, L2], .int .i64 n] w fun e w' => e = .returned (.bool true) ∧ Below w.heap.size w w' := by
  obtain ⟨n', hn', hn0, hn1⟩ := wtm' n 2824 (by omega) (by omega)
  have HN := Aside0.mk (show 0 ≤ n' ∧ n' < 2824 from ⟨hn0, hn1⟩)
  have HNE := Aside0.mk (show (n' == 2824) = false by simp; omega)
  have HL := Aside0.mk (newS_len n' hn0 hn1)
  have HR := Aside0.mk (Below.refl w.heap.size w)
  clear hn0 hn1
  go_enter Try.func5, Try.ntmps5
  go_wp2_with (first
    | ((with_reducible refine gate_dst (N := 2) rfl ?_); refine box_event ?hg (N := 2) ?hd (cs := #[.int .i64 kd, .int .i64 at_, .int .u64 v, .int .i64 c.k, .int .i64 c.l, .int .i64 c.s, .int .u64 c.v, .int .i64 c.d0, .int .i64 c.d1, .int .i64 c.d2, .int .i64 c.d3, .int .i64 c.d4, .int .i64 c.m, L1, L2]) (t := 47) ?hr ?_; (case hd => rfl); (case hg => rfl); (case hr => first | (go_simp; done) | (go_simp; rfl)); intro g hg w1 hbox hb; have X := Aside0.mk hbox; have HB := Aside0.mk hb; have GG := Aside0.mk hg; clear hb hbox hg; have x1 := cell_of X.out (o := 1) rfl; have x2 := cell_of X.out (o := 2) rfl; have x3 := cell_of X.out (o := 3) rfl; have x4 := cell_of X.out (o := 4) rfl; have x5 := cell_of X.out (o := 5) rfl; have x6 := cell_of X.out (o := 6) rfl; have x7 := cell_of X.out (o := 7) rfl; have x8 := cell_of X.out (o := 8) rfl; have x9 := cell_of X.out (o := 9) rfl; have x10 := cell_of X.out (o := 10) rfl; have x11 := cell_of X.out (o := 11) rfl; have x12 := cell_of X.out (o := 12) rfl; have x13 := cell_of X.out (o := 13) rfl; have x14 := cell_of X.out (o := 14) rfl)
    | (go_at_call 6; refine (lives_calls _).mono ?_; rintro e wn ⟨rfl, hb⟩; have B := Aside0.mk (HB.out.trans (hb.mono HB.out.size)); clear HB; have HB := B; clear B; have Y := Aside0.mk (blk_below X.out hb); clear x1 x2 x3 x4 x5 x6 x7 x8 x9 x10 x11 x12 x13 x14; clear X; have X := Y; clear Y hb; have x1 := cell_of X.out (o := 1) rfl; have x2 := cell_of X.out (o := 2) rfl; have x3 := cell_of X.out (o := 3) rfl; have x4 := cell_of X.out (o := 4) rfl; have x5 := cell_of X.out (o := 5) rfl; have x6 := cell_of X.out (o := 6) rfl; have x7 := cell_of X.out (o := 7) rfl; have x8 := cell_of X.out (o := 8) rfl; have x9 := cell_of X.out (o := 9) rfl; have x10 := cell_of X.out (o := 10) rfl; have x11 := cell_of X.out (o := 11) rfl; have x12 := cell_of X.out (o := 12) rfl; have x13 := cell_of X.out (o := 13) rfl; have x14 := cell_of X.out (o := 14) rfl)
    | (go_at_call 9; refine (New_other M.out n' HL.out HNE.out).mono ?_; rintro e wn ⟨rfl, hb⟩; have B := Aside0.mk (HB.out.trans (hb.mono HB.out.size)); clear HB; have HB := B; clear B; have Y := Aside0.mk (blk_below X.out hb); clear x1 x2 x3 x4 x5 x6 x7 x8 x9 x10 x11 x12 x13 x14; clear X; have X := Y; clear Y hb; have x1 := cell_of X.out (o := 1) rfl; have x2 := cell_of X.out (o := 2) rfl; have x3 := cell_of X.out (o := 3) rfl; have x4 := cell_of X.out (o := 4) rfl; have x5 := cell_of X.out (o := 5) rfl; have x6 := cell_of X.out (o := 6) rfl; have x7 := cell_of X.out (o := 7) rfl; have x8 := cell_of X.out (o := 8) rfl; have x9 := cell_of X.out (o := 9) rfl; have x10 := cell_of X.out (o := 10) rfl; have x11 := cell_of X.out (o := 11) rfl; have x12 := cell_of X.out (o := 12) rfl; have x13 := cell_of X.out (o := 13) rfl; have x14 := cell_of X.out (o := 14) rfl)
    | (go_at_call 9; refine (Vw.New_nil _).mono ?_; rintro e wn ⟨rfl, hb⟩; have B := Aside0.mk (HB.out.trans (hb.mono HB.out.size)); clear HB; have HB := B; clear B; have Y := Aside0.mk (blk_below X.out hb); clear x1 x2 x3 x4 x5 x6 x7 x8 x9 x10 x11 x12 x13 x14; clear X; have X := Y; clear Y hb; have x1 := cell_of X.out (o := 1) rfl; have x2 := cell_of X.out (o := 2) rfl; have x3 := cell_of X.out (o := 3) rfl; have x4 := cell_of X.out (o := 4) rfl; have x5 := cell_of X.out (o := 5) rfl; have x6 := cell_of X.out (o := 6) rfl; have x7 := cell_of X.out (o := 7) rfl; have x8 := cell_of X.out (o := 8) rfl; have x9 := cell_of X.out (o := 9) rfl; have x10 := cell_of X.out (o := 10) rfl; have x11 := cell_of X.out (o := 11) rfl; have x12 := cell_of X.out (o := 12) rfl; have x13 := cell_of X.out (o := 13) rfl; have x14 := cell_of X.out (o := 14) rfl)
    | (go_at_call 25; refine (Card_nil _ _).mono ?_; rintro e wn ⟨rfl, hb⟩; have B := Aside0.mk (HB.out.trans (hb.mono HB.out.size)); clear HB; have HB := B; clear B; have Y := Aside0.mk (blk_below X.out hb); clear x1 x2 x3 x4 x5 x6 x7 x8 x9 x10 x11 x12 x13 x14; clear X; have X := Y; clear Y hb; have x1 := cell_of X.out (o := 1) rfl; have x2 := cell_of X.out (o := 2) rfl; have x3 := cell_of X.out (o := 3) rfl; have x4 := cell_of X.out (o := 4) rfl; have x5 := cell_of X.out (o := 5) rfl; have x6 := cell_of X.out (o := 6) rfl; have x7 := cell_of X.out (o := 7) rfl; have x8 := cell_of X.out (o := 8) rfl; have x9 := cell_of X.out (o := 9) rfl; have x10 := cell_of X.out (o := 10) rfl; have x11 := cell_of X.out (o := 11) rfl; have x12 := cell_of X.out (o := 12) rfl; have x13 := cell_of X.out (o := 13) rfl; have x14 := cell_of X.out (o := 14) rfl)
    | ((with_reducible refine gate_dst (N := 6) rfl ?_); refine box_event ?hg (N := 6) ?hd (cs := zeroCrd.cells.toArray) (t := 45) ?hr ?_; (case hd => rfl); (case hg => rfl); (case hr => first | (go_simp; done) | (go_simp; rfl)); intro g2 hg2 wn hbox hb; have X2 := Aside0.mk hbox; have G2 := Aside0.mk (show w.heap.size ≤ g2 by rw [hg2]; exact HB.out.size); have GN := Aside0.mk (show g2 ≠ g by have h1 := (Array.getElem?_eq_some_iff.1 X.out).1; omega); clear hbox hg2; have B := Aside0.mk (HB.out.trans (hb.mono HB.out.size)); clear HB; have HB := B; clear B; have Y := Aside0.mk (blk_below X.out hb); clear x1 x2 x3 x4 x5 x6 x7 x8 x9 x10 x11 x12 x13 x14; clear X; have X := Y; clear Y hb; have x1 := cell_of X.out (o := 1) rfl; have x2 := cell_of X.out (o := 2) rfl; have x3 := cell_of X.out (o := 3) rfl; have x4 := cell_of X.out (o := 4) rfl; have x5 := cell_of X.out (o := 5) rfl; have x6 := cell_of X.out (o := 6) rfl; have x7 := cell_of X.out (o := 7) rfl; have x8 := cell_of X.out (o := 8) rfl; have x9 := cell_of X.out (o := 9) rfl; have x10 := cell_of X.out (o := 10) rfl; have x11 := cell_of X.out (o := 11) rfl; have x12 := cell_of X.out (o := 12) rfl; have x13 := cell_of X.out (o := 13) rfl; have x14 := cell_of X.out (o := 14) rfl)
    | ((with_reducible refine gate_store (t := 45) (p := 6) rfl ?_); obtain ⟨w6, hs, hb6, t6⟩ := store_card X2.out rfl zeroCrd; refine store_event (t := 45) (p := 6) (w1 := w6) rfl rfl rfl (pr_store_exec rfl rfl rfl hs) ?_; intro w7 hw7; rw [← hw7] at t6; have B := Aside0.mk (show Below w.heap.size w w7 from HB.out.trans (t6.below HB.out.size (fun x hx => by have h2 := G2.out; simp at hx; omega))); have Y := Aside0.mk ((t6.block g (Array.getElem?_eq_some_iff.1 X.out).1 (by have := GN.out; simp; omega)).trans X.out); clear x1 x2 x3 x4 x5 x6 x7 x8 x9 x10 x11 x12 x13 x14; clear X HB; have X := Y; have HB := B; clear Y B hs hb6 t6 hw7; have x1 := cell_of X.out (o := 1) rfl; have x2 := cell_of X.out (o := 2) rfl; have x3 := cell_of X.out (o := 3) rfl; have x4 := cell_of X.out (o := 4) rfl; have x5 := cell_of X.out (o := 5) rfl; have x6 := cell_of X.out (o := 6) rfl; have x7 := cell_of X.out (o := 7) rfl; have x8 := cell_of X.out (o := 8) rfl; have x9 := cell_of X.out (o := 9) rfl; have x10 := cell_of X.out (o := 10) rfl; have x11 := cell_of X.out (o := 11) rfl; have x12 := cell_of X.out (o := 12) rfl; have x13 := cell_of X.out (o := 13) rfl; have x14 := cell_of X.out (o := 14) rfl)
    | (go_at_call 26; refine (Block_nil _ _).mono ?_; rintro e wn ⟨rfl, hb⟩; have B := Aside0.mk (HB.out.trans (hb.mono HB.out.size)); clear HB; have HB := B; clear B; have Y := Aside0.mk (blk_below X.out hb); clear x1 x2 x3 x4 x5 x6 x7 x8 x9 x10 x11 x12 x13 x14; clear X; have X := Y; clear Y hb; have x1 := cell_of X.out (o := 1) rfl; have x2 := cell_of X.out (o := 2) rfl; have x3 := cell_of X.out (o := 3) rfl; have x4 := cell_of X.out (o := 4) rfl; have x5 := cell_of X.out (o := 5) rfl; have x6 := cell_of X.out (o := 6) rfl; have x7 := cell_of X.out (o := 7) rfl; have x8 := cell_of X.out (o := 8) rfl; have x9 := cell_of X.out (o := 9) rfl; have x10 := cell_of X.out (o := 10) rfl; have x11 := cell_of X.out (o := 11) rfl; have x12 := cell_of X.out (o := 12) rfl; have x13 := cell_of X.out (o := 13) rfl; have x14 := cell_of X.out (o := 14) rfl)
    | (go_at_call 12; refine (Avoid_nil _ _ _).mono ?_; rintro e wn ⟨rfl, rfl⟩)
    | (go_at_call 15; refine (Reset_nil _).mono ?_; rintro e wn ⟨rfl, rfl⟩)
    | (go_at_call 27; refine (mNew_other _ n' HN.out.1 HN.out.2).mono ?_; rintro e wn ⟨f, rfl, hm, hb⟩; have M := Aside0.mk hm; clear hm; have B := Aside0.mk (HB.out.trans (hb.mono HB.out.size)); clear HB; have HB := B; clear B; have Y := Aside0.mk (blk_below X.out hb); clear x1 x2 x3 x4 x5 x6 x7 x8 x9 x10 x11 x12 x13 x14; clear X; have X := Y; clear Y hb; have x1 := cell_of X.out (o := 1) rfl; have x2 := cell_of X.out (o := 2) rfl; have x3 := cell_of X.out (o := 3) rfl; have x4 := cell_of X.out (o := 4) rfl; have x5 := cell_of X.out (o := 5) rfl; have x6 := cell_of X.out (o := 6) rfl; have x7 := cell_of X.out (o := 7) rfl; have x8 := cell_of X.out (o := 8) rfl; have x9 := cell_of X.out (o := 9) rfl; have x10 := cell_of X.out (o := 10) rfl; have x11 := cell_of X.out (o := 11) rfl; have x12 := cell_of X.out (o := 12) rfl; have x13 := cell_of X.out (o := 13) rfl; have x14 := cell_of X.out (o := 14) rfl)
    | (go_at_call 19; refine (Read_nil _ _).mono ?_; rintro e wn ⟨rfl, rfl⟩)
    | (go_at_call 11; refine (Write_nil _ _ _).mono ?_; rintro e wn ⟨rfl, rfl⟩)
    | (go_at_call 28; refine (Set_nil _ _ c).mono ?_; rintro e wn ⟨rfl, hb⟩; have B := Aside0.mk (HB.out.trans (hb.mono HB.out.size)); clear HB; have HB := B; clear B; have Y := Aside0.mk (blk_below X.out hb); clear x1 x2 x3 x4 x5 x6 x7 x8 x9 x10 x11 x12 x13 x14; clear X; have X := Y; clear Y hb; have x1 := cell_of X.out (o := 1) rfl; have x2 := cell_of X.out (o := 2) rfl; have x3 := cell_of X.out (o := 3) rfl; have x4 := cell_of X.out (o := 4) rfl; have x5 := cell_of X.out (o := 5) rfl; have x6 := cell_of X.out (o := 6) rfl; have x7 := cell_of X.out (o := 7) rfl; have x8 := cell_of X.out (o := 8) rfl; have x9 := cell_of X.out (o := 9) rfl; have x10 := cell_of X.out (o := 10) rfl; have x11 := cell_of X.out (o := 11) rfl; have x12 := cell_of X.out (o := 12) rfl; have x13 := cell_of X.out (o := 13) rfl; have x14 := cell_of X.out (o := 14) rfl)
    | (go_at_call 29; refine (SetBlock_nil _ _ _).mono ?_; rintro e wn ⟨rfl, hb⟩; have B := Aside0.mk (HB.out.trans (hb.mono HB.out.size)); clear HB; have HB := B; clear B; have Y := Aside0.mk (blk_below X.out hb); clear x1 x2 x3 x4 x5 x6 x7 x8 x9 x10 x11 x12 x13 x14; clear X; have X := Y; clear Y hb; have x1 := cell_of X.out (o := 1) rfl; have x2 := cell_of X.out (o := 2) rfl; have x3 := cell_of X.out (o := 3) rfl; have x4 := cell_of X.out (o := 4) rfl; have x5 := cell_of X.out (o := 5) rfl; have x6 := cell_of X.out (o := 6) rfl; have x7 := cell_of X.out (o := 7) rfl; have x8 := cell_of X.out (o := 8) rfl; have x9 := cell_of X.out (o := 9) rfl; have x10 := cell_of X.out (o := 10) rfl; have x11 := cell_of X.out (o := 11) rfl; have x12 := cell_of X.out (o := 12) rfl; have x13 := cell_of X.out (o := 13) rfl; have x14 := cell_of X.out (o := 14) rfl)
    | (go_at_call 20; refine (Changes_nil _).mono ?_; rintro e wn ⟨rfl, rfl⟩)
    | (go_at_call 30; refine (Seen_nil _).mono ?_; rintro e wn ⟨rfl, rfl⟩)
    | (go_at_call 31; refine (Mine_nil _).mono ?_; rintro e wn ⟨rfl, rfl⟩)
    | (go_at_call 13; refine (Avoids_nil _ _).mono ?_; rintro e wn ⟨rfl, rfl⟩)
    | (go_at_call 14; refine (AvoidsNode_nil _ _).mono ?_; rintro e wn ⟨rfl, rfl⟩)
    | (go_at_call 10; refine (Fresh_nil _ _).mono ?_; rintro e wn ⟨rfl, hb⟩; have B := Aside0.mk (HB.out.trans (hb.mono HB.out.size)); clear HB; have HB := B; clear B; have Y := Aside0.mk (blk_below X.out hb); clear x1 x2 x3 x4 x5 x6 x7 x8 x9 x10 x11 x12 x13 x14; clear X; have X := Y; clear Y hb; have x1 := cell_of X.out (o := 1) rfl; have x2 := cell_of X.out (o := 2) rfl; have x3 := cell_of X.out (o := 3) rfl; have x4 := cell_of X.out (o := 4) rfl; have x5 := cell_of X.out (o := 5) rfl; have x6 := cell_of X.out (o := 6) rfl; have x7 := cell_of X.out (o := 7) rfl; have x8 := cell_of X.out (o := 8) rfl; have x9 := cell_of X.out (o := 9) rfl; have x10 := cell_of X.out (o := 10) rfl; have x11 := cell_of X.out (o := 11) rfl; have x12 := cell_of X.out (o := 12) rfl; have x13 := cell_of X.out (o := 13) rfl; have x14 := cell_of X.out (o := 14) rfl)
    | fail)
  go_ret
  exact ⟨rfl, HB.out⟩
end Go.Proofs.Ytkbhilhefnahpaa.Vw
