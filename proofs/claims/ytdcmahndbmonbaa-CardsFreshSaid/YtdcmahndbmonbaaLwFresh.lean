/- Fresh cards, and those of no file. -/
import Derived.Handy
import Derived.Test.YtdcmahndbmonbaaReg
import Derived.Test.YtdcmahndbmonbaaHArr
import Derived.Test.YtdcmahndbmonbaaHHands
import Derived.Test.YtdcmahndbmonbaaHcardsRight
import Derived.Test.YtdcmahndbmonbaaHlives06
import Derived.Test.YtdcmahndbmonbaaPrint6
import Derived.Test.YtdcmahndbmonbaaPrint2
import Derived.Test.YtdcmahndbmonbaaPrint11
import Derived.Test.YtdcmahndbmonbaaPrint7
namespace Go.Proofs.Ytdcmahndbmonbaa.Fr
open Go Go.RowKit Go.Proofs.Ytdcmahndbmonbaa.Reg Go.Proofs.Ytdcmahndbmonbaa.Print Go.Proofs.YtdcmahndbmonbaaW.PrintWords Go.Proofs.YtdcmahndbmonbaaW.PrintLast Go.Proofs.YtdcmahndbmonbaaW.PrintMore
set_option linter.unusedVariables false
set_option linter.unusedSimpArgs false
structure Crd where
  k : Int
  l : Int
  s : Int
  v : Int
  d0 : Int
  d1 : Int
  d2 : Int
  d3 : Int
  d4 : Int
  m : Int
def Crd.cells (c : Crd) : List Value := [.int .i64 c.k, .int .i64 c.l, .int .i64 c.s, .int .u64 c.v, .int .i64 c.d0, .int .i64 c.d1, .int .i64 c.d2, .int .i64 c.d3, .int .i64 c.d4, .int .i64 c.m]
abbrev Crd.val (c : Crd) : Value := .agg #[.int .i64 c.k, .int .i64 c.l, .int .i64 c.s, .int .u64 c.v, .int .i64 c.d0, .int .i64 c.d1, .int .i64 c.d2, .int .i64 c.d3, .int .i64 c.d4, .int .i64 c.m]
def zeroCrd : Crd := ⟨0, 0, 0, 0, 0, 0, 0, 0, 0, 0⟩
theorem cell_of {w : World} {b o : Nat} {c : Array Value} {e : TypeId} {fr : Nat × Nat} {v : Value} (h : w.heap[b]? = some (.cells c e fr)) (hv : c[o]? = some v) : w.cell? ⟨b, o, none⟩ = some v := by
  simp [World.cell?, h, hv]
/-- A whole card is stored: its block holds it, the others stay. -/
theorem store_card {W : World} {g : Nat} {cur : Array Value} (hb : W.heap[g]? = some (.cells cur 25 (0, 0))) (hs : cur.size = 10) (c : Crd) :
    ∃ W', (Instr.storeAt 25 (.pointer (some ⟨g, 0, none⟩)) c.val).run Try.prog W = .ok () W' ∧ W'.heap[g]? = some (.cells c.cells.toArray 25 (0, 0)) ∧ (∀ k, k ≠ g → W'.heap[k]? = W.heap[k]?) ∧ ∀ B, B ≤ g → Below B W W' := by
  refine ⟨_, run_store_run (P := Try.prog) (o := 0) (cur := cur) 25 c.val c.cells hb rfl (by kernel_rfl) (by rw [hs]; simp [Crd.cells]) (fun q hq => by simp [Crd.cells] at hq; rcases hq with rfl | rfl | rfl | rfl | rfl | rfl | rfl | rfl | rfl | rfl <;> rfl), ?_, ?_, ?_⟩
  · obtain ⟨cur', h1, h2, h3⟩ := setCells_row c.cells 0 W cur hb (by rw [hs]; simp [Crd.cells])
    rw [h1]
    have : cur' = c.cells.toArray := by
      apply Array.ext'
      rw [h3, List.take_zero, List.nil_append, List.drop_of_length_le (by rw [Array.length_toList, hs]; simp [Crd.cells]), List.append_nil]
    rw [this]
  · intro k hk
    exact setCells_far _ _ _ hk
  · obtain ⟨h1, h2, h3, h4⟩ := setCells_same g c.cells 0 W
    intro B hB
    exact ⟨h1, h2, h3, by rw [h4]; exact Nat.le_refl _, fun k hk => setCells_far _ _ _ (by omega)⟩
def freshC (kd ver : Int) : Crd := ⟨kd, 1, 0, ver, -1, -1, -1, -1, -1, -1⟩
def noneC (ver : Int) : Crd := ⟨0, 0, 0, ver, -1, -1, -1, -1, -1, -1⟩
theorem fresh_f (kd ver : Int) (h : kd = 1 ∨ kd = 2 ∨ kd = 3) : cards_Fresh.f 7 kd ver = some (kd, 1, 0, ver, -1, -1, -1, -1, -1, -1, 0) := by
  rcases h with rfl | rfl | rfl <;> kernel_rfl
theorem fresh_no (kd ver : Int) (h : ¬ (kd = 1 ∨ kd = 2 ∨ kd = 3)) : cards_Fresh.f 7 kd ver = some (0, 0, 0, 0, 0, 0, 0, 0, 0, 0, 1) := by
  unfold cards_Fresh.f
  rw [if_neg (by omega), if_neg (by omega), if_neg (by omega)]
theorem rfresh_f (kd ver : Int) (h : kd = 1 ∨ kd = 2 ∨ kd = 3) : escritoireref06_Fresh.f kd ver = some (kd, 1, 0, ver, -1, -1, -1, -1, -1, -1, 0) := by
  unfold escritoireref06_Fresh.f
  rw [if_neg (by omega), if_neg (by omega)]
  rfl
theorem rfresh_no (kd ver : Int) (h : ¬ (kd = 1 ∨ kd = 2 ∨ kd = 3)) : escritoireref06_Fresh.f kd ver = some (0, 0, 0, 0, 0, 0, 0, 0, 0, 0, 1) := by
  unfold escritoireref06_Fresh.f
  by_cases h1 : kd < 1
  · rw [if_pos h1]
  · rw [if_neg h1, if_pos (by omega)]
theorem both (kd ver : Int) : ∃ (c : Crd) (e : Int), (∀ w, Calls Try.prog 16 #[.int .i64 kd, .int .u64 ver] w fun x w' => x = .returned (.tuple #[c.val, .int .i64 e]) ∧ Below w.heap.size w w') ∧ (∀ w, Calls Try.prog 17 #[.int .i64 kd, .int .u64 ver] w fun x w' => x = .returned (.tuple #[c.val, .int .i64 e]) ∧ Below w.heap.size w w') ∧
    ((e = 0 ∧ ∀ w, Calls Try.prog 12 #[c.val] w fun x w' => x = .returned (.bool true) ∧ Below w.heap.size w w') ∨ e = 1) := by
  by_cases h : kd = 1 ∨ kd = 2 ∨ kd = 3
  · refine ⟨freshC kd ver, 0, fun w => cards_Fresh.calls 7 kd ver _ _ _ _ _ _ _ _ _ _ _ w (fresh_f kd ver h), fun w => escritoireref06_Fresh.calls kd ver _ _ _ _ _ _ _ _ _ _ _ w (rfresh_f kd ver h), .inl ⟨rfl, fun w => ?_⟩⟩
    exact cards_Right.calls kd 1 0 ver (-1) (-1) (-1) (-1) (-1) (-1) true w (by rcases h with rfl | rfl | rfl <;> rfl)
  · exact ⟨zeroCrd, 1, fun w => cards_Fresh.calls 7 kd ver _ _ _ _ _ _ _ _ _ _ _ w (fresh_no kd ver h), fun w => escritoireref06_Fresh.calls kd ver _ _ _ _ _ _ _ _ _ _ _ w (rfresh_no kd ver h), .inr rfl⟩
theorem None_as (ver : Int) (w : World) : Calls Try.prog 18 #[.int .u64 ver] w fun x w' => x = .returned (.agg #[.int .i64 0, .int .i64 0, .int .i64 0, .int .u64 ver, .int .i64 (-1), .int .i64 (-1), .int .i64 (-1), .int .i64 (-1), .int .i64 (-1), .int .i64 (-1)]) ∧ Below w.heap.size w w' :=
  cards_None.calls 7 ver _ _ _ _ _ _ _ _ _ _ w (none_f ver)
theorem rNone_as (ver : Int) (w : World) : Calls Try.prog 19 #[.int .u64 ver] w fun x w' => x = .returned (.agg #[.int .i64 0, .int .i64 0, .int .i64 0, .int .u64 ver, .int .i64 (-1), .int .i64 (-1), .int .i64 (-1), .int .i64 (-1), .int .i64 (-1), .int .i64 (-1)]) ∧ Below w.heap.size w w' :=
  escritoireref06_None.calls ver _ _ _ _ _ _ _ _ _ _ w rfl
theorem RightN_as (ver : Int) (w : World) : Calls Try.prog 12 #[(noneC ver).val] w fun x w' => x = .returned (.bool true) ∧ Below w.heap.size w w' :=
  cards_Right.calls 0 0 0 ver (-1) (-1) (-1) (-1) (-1) (-1) true w (by unfold cards_Right.f; simp [rightB, dirNone, noneB])
attribute [local go_sem high] eqA25
set_option maxHeartbeats 4000000 in
set_option maxRecDepth 100000 in
theorem CardsFresh_calls (w : World) (kd ver : Int) : Calls Try.prog 6 #[.int .i64 kd, .int .u64 ver] w fun x w' => x = .returned (.bool true) ∧ Below w.heap.size w w' := by
  obtain ⟨c, e, h1, h2, h3⟩ := both kd ver
  have H1 := Aside0.mk h1
  have H2 := Aside0.mk h2
  have HB := Aside0.mk (Below.refl w.heap.size w)
  have hu := Try.underlying25
  clear h1 h2
  go_enter Try.func6, Try.ntmps6
  go_wp2_with (first
    | (go_at_call 8; refine (escritoirelaw06_lives.calls true _ rfl).mono ?_; rintro x w1 ⟨rfl, hb⟩; have B1 := Aside0.mk hb; clear hb HB)
    | (go_at_call 16; refine (H1.out _).mono ?_; rintro x w2 ⟨rfl, hb⟩; have B2 := Aside0.mk (B1.out.trans (hb.mono B1.out.size)); clear hb B1)
    | ((with_reducible refine gate_dst (N := 5) rfl ?_); refine box_event ?hg (N := 5) ?hd (cs := zeroCrd.cells.toArray) (t := 25) ?hr ?_; (case hd => rfl); (case hg => rfl); (case hr => first | (go_simp; done) | (go_simp; rfl)); intro g1 hg w3 hbox hb; have X3 := Aside0.mk hbox; have G1 := Aside0.mk (show w.heap.size ≤ g1 by rw [hg]; exact B2.out.size); have B3 := Aside0.mk (B2.out.trans (hb.mono B2.out.size)); clear hb hbox hg B2)
    | ((with_reducible refine gate_store (t := 25) (p := 5) rfl ?_); obtain ⟨w4', hs, hb6, hf, hB⟩ := store_card X3.out rfl c; refine store_event (t := 25) (p := 5) (w1 := w4') rfl rfl rfl (pr_store_exec rfl rfl rfl hs) ?_; intro w4 hw; rw [← hw] at hb6 hf hB; have X4 := Aside0.mk hb6; have B4 := Aside0.mk (B3.out.trans (hB _ G1.out)); clear hs hb6 hf hB hw X3 B3)
    | (go_at_call 17; refine (H2.out _).mono ?_; rintro x w5 ⟨rfl, hb⟩; have B5 := Aside0.mk (B4.out.trans (hb.mono B4.out.size)); have X5 := Aside0.mk (blk_below X4.out hb); clear hb B4 X4)
    | ((with_reducible refine gate_dst (N := 7) rfl ?_); refine box_event ?hg (N := 7) ?hd (cs := zeroCrd.cells.toArray) (t := 25) ?hr ?_; (case hd => rfl); (case hg => rfl); (case hr => first | (go_simp; done) | (go_simp; rfl)); intro g2 hg w6 hbox hb; have Y6 := Aside0.mk hbox; have X6 := Aside0.mk (blk_below X5.out hb); have N12 := Aside0.mk (show g1 ≠ g2 by have := blk_lt X5.out; omega); have G2 := Aside0.mk (show w.heap.size ≤ g2 by rw [hg]; exact B5.out.size); have B6 := Aside0.mk (B5.out.trans (hb.mono B5.out.size)); clear hb hbox hg B5 X5)
    | ((with_reducible refine gate_store (t := 25) (p := 7) rfl ?_); obtain ⟨w7', hs, hb6, hf, hB⟩ := store_card Y6.out rfl c; refine store_event (t := 25) (p := 7) (w1 := w7') rfl rfl rfl (pr_store_exec rfl rfl rfl hs) ?_; intro w7 hw; rw [← hw] at hb6 hf hB; have Y7 := Aside0.mk hb6; have X7 := Aside0.mk ((hf g1 N12.out).trans X6.out); have B7 := Aside0.mk (B6.out.trans (hB _ G2.out)); clear hs hb6 hf hB hw X6 Y6 B6)
    | (go_at_call 18; refine (None_as ver _).mono ?_; rintro x w8 ⟨rfl, hb⟩; have B8 := Aside0.mk (B7.out.trans (hb.mono B7.out.size)); have X8 := Aside0.mk (blk_below X7.out hb); have Y8 := Aside0.mk (blk_below Y7.out hb); clear hb B7 X7 Y7)
    | ((with_reducible refine gate_dst (N := 9) rfl ?_); refine box_event ?hg (N := 9) ?hd (cs := zeroCrd.cells.toArray) (t := 25) ?hr ?_; (case hd => rfl); (case hg => rfl); (case hr => first | (go_simp; done) | (go_simp; rfl)); intro g3 hg w9 hbox hb; have Z9 := Aside0.mk hbox; have X9 := Aside0.mk (blk_below X8.out hb); have Y9 := Aside0.mk (blk_below Y8.out hb); have N13 := Aside0.mk (show g1 ≠ g3 by have := blk_lt X8.out; omega); have N23 := Aside0.mk (show g2 ≠ g3 by have := blk_lt Y8.out; omega); have G3 := Aside0.mk (show w.heap.size ≤ g3 by rw [hg]; exact B8.out.size); have B9 := Aside0.mk (B8.out.trans (hb.mono B8.out.size)); clear hb hbox hg B8 X8 Y8)
    | ((with_reducible refine gate_store (t := 25) (p := 9) rfl ?_); obtain ⟨wa', hs, hb6, hf, hB⟩ := store_card Z9.out rfl (noneC ver); refine store_event (t := 25) (p := 9) (w1 := wa') rfl rfl rfl (pr_store_exec rfl rfl rfl hs) ?_; intro wa hw; rw [← hw] at hb6 hf hB; have Za := Aside0.mk hb6; have Xa := Aside0.mk ((hf g1 N13.out).trans X9.out); have Ya := Aside0.mk ((hf g2 N23.out).trans Y9.out); have Ba := Aside0.mk (B9.out.trans (hB _ G3.out)); clear hs hb6 hf hB hw X9 Y9 Z9 B9)
    | fail)
  rcases h3 with ⟨rfl, hright⟩ | rfl
  · have HRight := Aside0.mk hright
    clear hright
    refine wp_region_text (fun W => W.heap[g1]? = some (.cells c.cells.toArray 25 (0, 0)) ∧ W.heap[g2]? = some (.cells c.cells.toArray 25 (0, 0)) ∧ W.heap[g3]? = some (.cells (noneC ver).cells.toArray 25 (0, 0))) (fun i => [11, 16, 23].contains i) (by kernel_rfl) (by kernel_rfl) ⟨Xa.out, Ya.out, Za.out⟩ ?_
    have BB := Aside0.mk (Ba.out.drew)
    have XX := Aside0.mk (show wa.drew.heap[g1]? = some (.cells c.cells.toArray 25 (0, 0)) from Xa.out)
    have YY := Aside0.mk (show wa.drew.heap[g2]? = some (.cells c.cells.toArray 25 (0, 0)) from Ya.out)
    have ZZ := Aside0.mk (show wa.drew.heap[g3]? = some (.cells (noneC ver).cells.toArray 25 (0, 0)) from Za.out)
    clear Xa Ya Za Ba
    generalize wa.drew = wd at BB XX YY ZZ ⊢
    (apply S_val (v := .agg #[.int .i64 c.k, .int .i64 c.l, .int .i64 c.s, .int .u64 c.v, .int .i64 c.d0, .int .i64 c.d1, .int .i64 c.d2, .int .i64 c.d3, .int .i64 c.d4, .int .i64 c.m]) rfl; (first | exact wanted_none rfl | exact wanted_yes rfl rfl (by kernel_rfl)); (intro W hW R hR; have x0 := cell_of hW.1 (o := 0) rfl; have y0 := cell_of hW.2.1 (o := 0) rfl; have z0 := cell_of hW.2.2 (o := 0) rfl; have x1 := cell_of hW.1 (o := 1) rfl; have y1 := cell_of hW.2.1 (o := 1) rfl; have z1 := cell_of hW.2.2 (o := 1) rfl; have x2 := cell_of hW.1 (o := 2) rfl; have y2 := cell_of hW.2.1 (o := 2) rfl; have z2 := cell_of hW.2.2 (o := 2) rfl; have x3 := cell_of hW.1 (o := 3) rfl; have y3 := cell_of hW.2.1 (o := 3) rfl; have z3 := cell_of hW.2.2 (o := 3) rfl; have x4 := cell_of hW.1 (o := 4) rfl; have y4 := cell_of hW.2.1 (o := 4) rfl; have z4 := cell_of hW.2.2 (o := 4) rfl; have x5 := cell_of hW.1 (o := 5) rfl; have y5 := cell_of hW.2.1 (o := 5) rfl; have z5 := cell_of hW.2.2 (o := 5) rfl; have x6 := cell_of hW.1 (o := 6) rfl; have y6 := cell_of hW.2.1 (o := 6) rfl; have z6 := cell_of hW.2.2 (o := 6) rfl; have x7 := cell_of hW.1 (o := 7) rfl; have y7 := cell_of hW.2.1 (o := 7) rfl; have z7 := cell_of hW.2.2 (o := 7) rfl; have x8 := cell_of hW.1 (o := 8) rfl; have y8 := cell_of hW.2.1 (o := 8) rfl; have z8 := cell_of hW.2.2 (o := 8) rfl; have x9 := cell_of hW.1 (o := 9) rfl; have y9 := cell_of hW.2.1 (o := 9) rfl; have z9 := cell_of hW.2.2 (o := 9) rfl; go_simp; exact hR)); go_frame
    (apply S_val (v := .agg #[.int .i64 c.k, .int .i64 c.l, .int .i64 c.s, .int .u64 c.v, .int .i64 c.d0, .int .i64 c.d1, .int .i64 c.d2, .int .i64 c.d3, .int .i64 c.d4, .int .i64 c.m]) rfl; (first | exact wanted_none rfl | exact wanted_yes rfl rfl (by kernel_rfl)); (intro W hW R hR; have x0 := cell_of hW.1 (o := 0) rfl; have y0 := cell_of hW.2.1 (o := 0) rfl; have z0 := cell_of hW.2.2 (o := 0) rfl; have x1 := cell_of hW.1 (o := 1) rfl; have y1 := cell_of hW.2.1 (o := 1) rfl; have z1 := cell_of hW.2.2 (o := 1) rfl; have x2 := cell_of hW.1 (o := 2) rfl; have y2 := cell_of hW.2.1 (o := 2) rfl; have z2 := cell_of hW.2.2 (o := 2) rfl; have x3 := cell_of hW.1 (o := 3) rfl; have y3 := cell_of hW.2.1 (o := 3) rfl; have z3 := cell_of hW.2.2 (o := 3) rfl; have x4 := cell_of hW.1 (o := 4) rfl; have y4 := cell_of hW.2.1 (o := 4) rfl; have z4 := cell_of hW.2.2 (o := 4) rfl; have x5 := cell_of hW.1 (o := 5) rfl; have y5 := cell_of hW.2.1 (o := 5) rfl; have z5 := cell_of hW.2.2 (o := 5) rfl; have x6 := cell_of hW.1 (o := 6) rfl; have y6 := cell_of hW.2.1 (o := 6) rfl; have z6 := cell_of hW.2.2 (o := 6) rfl; have x7 := cell_of hW.1 (o := 7) rfl; have y7 := cell_of hW.2.1 (o := 7) rfl; have z7 := cell_of hW.2.2 (o := 7) rfl; have x8 := cell_of hW.1 (o := 8) rfl; have y8 := cell_of hW.2.1 (o := 8) rfl; have z8 := cell_of hW.2.2 (o := 8) rfl; have x9 := cell_of hW.1 (o := 9) rfl; have y9 := cell_of hW.2.1 (o := 9) rfl; have z9 := cell_of hW.2.2 (o := 9) rfl; go_simp; exact hR)); go_frame
    (apply S_val rfl; (first | exact wanted_none rfl | exact wanted_yes rfl rfl (by kernel_rfl)); (intro W hW R hR; go_simp; exact hR)); go_frame
    (apply S_val rfl; (first | exact wanted_none rfl | exact wanted_yes rfl rfl (by kernel_rfl)); (intro W hW R hR; go_simp; exact hR)); go_frame
    (apply S_val rfl; (first | exact wanted_none rfl | exact wanted_yes rfl rfl (by kernel_rfl)); (intro W hW R hR; go_simp; exact hR)); go_frame
    (apply S_val rfl; (first | exact wanted_none rfl | exact wanted_yes rfl rfl (by kernel_rfl)); (intro W hW R hR; go_simp; exact hR)); go_frame
    (apply S_val rfl; (first | exact wanted_none rfl | exact wanted_yes rfl rfl (by kernel_rfl)); (intro W hW R hR; go_simp; exact hR)); go_frame
    (apply S_val rfl; (first | exact wanted_none rfl | exact wanted_yes rfl rfl (by kernel_rfl)); (intro W hW R hR; go_simp; exact hR)); go_frame
    (apply S_val rfl; (first | exact wanted_none rfl | exact wanted_yes rfl rfl (by kernel_rfl)); (intro W hW R hR; go_simp; exact hR)); go_frame
    (apply S_val (v := .agg #[.int .i64 0, .int .i64 0, .int .i64 0, .int .u64 ver, .int .i64 (-1), .int .i64 (-1), .int .i64 (-1), .int .i64 (-1), .int .i64 (-1), .int .i64 (-1)]) rfl; (first | exact wanted_none rfl | exact wanted_yes rfl rfl (by kernel_rfl)); (intro W hW R hR; have x0 := cell_of hW.1 (o := 0) rfl; have y0 := cell_of hW.2.1 (o := 0) rfl; have z0 := cell_of hW.2.2 (o := 0) rfl; have x1 := cell_of hW.1 (o := 1) rfl; have y1 := cell_of hW.2.1 (o := 1) rfl; have z1 := cell_of hW.2.2 (o := 1) rfl; have x2 := cell_of hW.1 (o := 2) rfl; have y2 := cell_of hW.2.1 (o := 2) rfl; have z2 := cell_of hW.2.2 (o := 2) rfl; have x3 := cell_of hW.1 (o := 3) rfl; have y3 := cell_of hW.2.1 (o := 3) rfl; have z3 := cell_of hW.2.2 (o := 3) rfl; have x4 := cell_of hW.1 (o := 4) rfl; have y4 := cell_of hW.2.1 (o := 4) rfl; have z4 := cell_of hW.2.2 (o := 4) rfl; have x5 := cell_of hW.1 (o := 5) rfl; have y5 := cell_of hW.2.1 (o := 5) rfl; have z5 := cell_of hW.2.2 (o := 5) rfl; have x6 := cell_of hW.1 (o := 6) rfl; have y6 := cell_of hW.2.1 (o := 6) rfl; have z6 := cell_of hW.2.2 (o := 6) rfl; have x7 := cell_of hW.1 (o := 7) rfl; have y7 := cell_of hW.2.1 (o := 7) rfl; have z7 := cell_of hW.2.2 (o := 7) rfl; have x8 := cell_of hW.1 (o := 8) rfl; have y8 := cell_of hW.2.1 (o := 8) rfl; have z8 := cell_of hW.2.2 (o := 8) rfl; have x9 := cell_of hW.1 (o := 9) rfl; have y9 := cell_of hW.2.1 (o := 9) rfl; have z9 := cell_of hW.2.2 (o := 9) rfl; go_simp; exact hR)); go_frame
    (apply S_val rfl; (first | exact wanted_none rfl | exact wanted_yes rfl rfl (by kernel_rfl)); (intro W hW R hR; go_simp; exact hR)); go_frame
    (refine S_call rfl ?_ ?_ (rNone_as ver _) ?_; (first | exact wanted_none rfl | exact wanted_yes rfl rfl (by kernel_rfl)); (focus (first | (go_simp; done) | (go_simp; simp [noneC]; done) | (go_simp; rfl)))); rintro x wb ⟨rfl, hb⟩; refine ⟨_, rfl, ⟨(blk_below XX.out hb), (blk_below YY.out hb), (blk_below ZZ.out hb)⟩, ?_⟩; have XX1 := Aside0.mk (blk_below XX.out hb); have YY1 := Aside0.mk (blk_below YY.out hb); have ZZ1 := Aside0.mk (blk_below ZZ.out hb); have BB1 := Aside0.mk (BB.out.trans (hb.mono BB.out.size)); clear hb XX YY ZZ BB; have XX := XX1; have YY := YY1; have ZZ := ZZ1; have BB := BB1; clear XX1 YY1 ZZ1 BB1; go_frame
    (apply S_val rfl; (first | exact wanted_none rfl | exact wanted_yes rfl rfl (by kernel_rfl)); (intro W hW R hR; go_simp; exact hR)); go_frame
    (apply S_val rfl; (first | exact wanted_none rfl | exact wanted_yes rfl rfl (by kernel_rfl)); (intro W hW R hR; go_simp; exact hR)); go_frame
    (apply S_val rfl; (first | exact wanted_none rfl | exact wanted_yes rfl rfl (by kernel_rfl)); (intro W hW R hR; go_simp; exact hR)); go_frame
    (apply S_val (v := .agg #[.int .i64 0, .int .i64 0, .int .i64 0, .int .u64 ver, .int .i64 (-1), .int .i64 (-1), .int .i64 (-1), .int .i64 (-1), .int .i64 (-1), .int .i64 (-1)]) rfl; (first | exact wanted_none rfl | exact wanted_yes rfl rfl (by kernel_rfl)); (intro W hW R hR; have x0 := cell_of hW.1 (o := 0) rfl; have y0 := cell_of hW.2.1 (o := 0) rfl; have z0 := cell_of hW.2.2 (o := 0) rfl; have x1 := cell_of hW.1 (o := 1) rfl; have y1 := cell_of hW.2.1 (o := 1) rfl; have z1 := cell_of hW.2.2 (o := 1) rfl; have x2 := cell_of hW.1 (o := 2) rfl; have y2 := cell_of hW.2.1 (o := 2) rfl; have z2 := cell_of hW.2.2 (o := 2) rfl; have x3 := cell_of hW.1 (o := 3) rfl; have y3 := cell_of hW.2.1 (o := 3) rfl; have z3 := cell_of hW.2.2 (o := 3) rfl; have x4 := cell_of hW.1 (o := 4) rfl; have y4 := cell_of hW.2.1 (o := 4) rfl; have z4 := cell_of hW.2.2 (o := 4) rfl; have x5 := cell_of hW.1 (o := 5) rfl; have y5 := cell_of hW.2.1 (o := 5) rfl; have z5 := cell_of hW.2.2 (o := 5) rfl; have x6 := cell_of hW.1 (o := 6) rfl; have y6 := cell_of hW.2.1 (o := 6) rfl; have z6 := cell_of hW.2.2 (o := 6) rfl; have x7 := cell_of hW.1 (o := 7) rfl; have y7 := cell_of hW.2.1 (o := 7) rfl; have z7 := cell_of hW.2.2 (o := 7) rfl; have x8 := cell_of hW.1 (o := 8) rfl; have y8 := cell_of hW.2.1 (o := 8) rfl; have z8 := cell_of hW.2.2 (o := 8) rfl; have x9 := cell_of hW.1 (o := 9) rfl; have y9 := cell_of hW.2.1 (o := 9) rfl; have z9 := cell_of hW.2.2 (o := 9) rfl; go_simp; exact hR)); go_frame
    (refine S_call rfl ?_ ?_ (RightN_as ver _) ?_; (first | exact wanted_none rfl | exact wanted_yes rfl rfl (by kernel_rfl)); (focus (first | (go_simp; done) | (go_simp; simp [noneC]; done) | (go_simp; rfl)))); rintro x wc ⟨rfl, hb⟩; refine ⟨_, rfl, ⟨(blk_below XX.out hb), (blk_below YY.out hb), (blk_below ZZ.out hb)⟩, ?_⟩; have XX2 := Aside0.mk (blk_below XX.out hb); have YY2 := Aside0.mk (blk_below YY.out hb); have ZZ2 := Aside0.mk (blk_below ZZ.out hb); have BB2 := Aside0.mk (BB.out.trans (hb.mono BB.out.size)); clear hb XX YY ZZ BB; have XX := XX2; have YY := YY2; have ZZ := ZZ2; have BB := BB2; clear XX2 YY2 ZZ2 BB2; go_frame
    (apply S_val rfl; (first | exact wanted_none rfl | exact wanted_yes rfl rfl (by kernel_rfl)); (intro W hW R hR; go_simp; exact hR)); go_frame
    (apply S_val rfl; (first | exact wanted_none rfl | exact wanted_yes rfl rfl (by kernel_rfl)); (intro W hW R hR; go_simp; exact hR)); go_frame
    (apply S_val rfl; (first | exact wanted_none rfl | exact wanted_yes rfl rfl (by kernel_rfl)); (intro W hW R hR; go_simp; exact hR)); go_frame
    (apply S_val rfl; (first | exact wanted_none rfl | exact wanted_yes rfl rfl (by kernel_rfl)); (intro W hW R hR; go_simp; exact hR)); go_frame
    (apply S_val rfl; (first | exact wanted_none rfl | exact wanted_yes rfl rfl (by kernel_rfl)); (intro W hW R hR; go_simp; exact hR)); go_frame
    (apply S_val (v := .agg #[.int .i64 c.k, .int .i64 c.l, .int .i64 c.s, .int .u64 c.v, .int .i64 c.d0, .int .i64 c.d1, .int .i64 c.d2, .int .i64 c.d3, .int .i64 c.d4, .int .i64 c.m]) rfl; (first | exact wanted_none rfl | exact wanted_yes rfl rfl (by kernel_rfl)); (intro W hW R hR; have x0 := cell_of hW.1 (o := 0) rfl; have y0 := cell_of hW.2.1 (o := 0) rfl; have z0 := cell_of hW.2.2 (o := 0) rfl; have x1 := cell_of hW.1 (o := 1) rfl; have y1 := cell_of hW.2.1 (o := 1) rfl; have z1 := cell_of hW.2.2 (o := 1) rfl; have x2 := cell_of hW.1 (o := 2) rfl; have y2 := cell_of hW.2.1 (o := 2) rfl; have z2 := cell_of hW.2.2 (o := 2) rfl; have x3 := cell_of hW.1 (o := 3) rfl; have y3 := cell_of hW.2.1 (o := 3) rfl; have z3 := cell_of hW.2.2 (o := 3) rfl; have x4 := cell_of hW.1 (o := 4) rfl; have y4 := cell_of hW.2.1 (o := 4) rfl; have z4 := cell_of hW.2.2 (o := 4) rfl; have x5 := cell_of hW.1 (o := 5) rfl; have y5 := cell_of hW.2.1 (o := 5) rfl; have z5 := cell_of hW.2.2 (o := 5) rfl; have x6 := cell_of hW.1 (o := 6) rfl; have y6 := cell_of hW.2.1 (o := 6) rfl; have z6 := cell_of hW.2.2 (o := 6) rfl; have x7 := cell_of hW.1 (o := 7) rfl; have y7 := cell_of hW.2.1 (o := 7) rfl; have z7 := cell_of hW.2.2 (o := 7) rfl; have x8 := cell_of hW.1 (o := 8) rfl; have y8 := cell_of hW.2.1 (o := 8) rfl; have z8 := cell_of hW.2.2 (o := 8) rfl; have x9 := cell_of hW.1 (o := 9) rfl; have y9 := cell_of hW.2.1 (o := 9) rfl; have z9 := cell_of hW.2.2 (o := 9) rfl; go_simp; exact hR)); go_frame
    (refine S_call rfl ?_ ?_ (HRight.out _) ?_; (first | exact wanted_none rfl | exact wanted_yes rfl rfl (by kernel_rfl)); (focus (first | (go_simp; done) | (go_simp; simp [noneC]; done) | (go_simp; rfl)))); rintro x we ⟨rfl, hb⟩; refine ⟨_, rfl, ⟨(blk_below XX.out hb), (blk_below YY.out hb), (blk_below ZZ.out hb)⟩, ?_⟩; have XX3 := Aside0.mk (blk_below XX.out hb); have YY3 := Aside0.mk (blk_below YY.out hb); have ZZ3 := Aside0.mk (blk_below ZZ.out hb); have BB3 := Aside0.mk (BB.out.trans (hb.mono BB.out.size)); clear hb XX YY ZZ BB; have XX := XX3; have YY := YY3; have ZZ := ZZ3; have BB := BB3; clear XX3 YY3 ZZ3 BB3; go_frame
    (apply S_val rfl; (first | exact wanted_none rfl | exact wanted_yes rfl rfl (by kernel_rfl)); (intro W hW R hR; go_simp; exact hR)); go_frame
    (apply S_val rfl; (first | exact wanted_none rfl | exact wanted_yes rfl rfl (by kernel_rfl)); (intro W hW R hR; go_simp; exact hR)); go_frame
    (apply S_val rfl; (first | exact wanted_none rfl | exact wanted_yes rfl rfl (by kernel_rfl)); (intro W hW R hR; go_simp; exact hR)); go_frame
    apply S_nil
    go_wp2
    go_ret
    exact ⟨rfl, BB.out⟩
  · skip
    refine wp_region_text (fun W => W.heap[g1]? = some (.cells c.cells.toArray 25 (0, 0)) ∧ W.heap[g2]? = some (.cells c.cells.toArray 25 (0, 0)) ∧ W.heap[g3]? = some (.cells (noneC ver).cells.toArray 25 (0, 0))) (fun i => [11, 16, 23].contains i) (by kernel_rfl) (by kernel_rfl) ⟨Xa.out, Ya.out, Za.out⟩ ?_
    have BB := Aside0.mk (Ba.out.drew)
    have XX := Aside0.mk (show wa.drew.heap[g1]? = some (.cells c.cells.toArray 25 (0, 0)) from Xa.out)
    have YY := Aside0.mk (show wa.drew.heap[g2]? = some (.cells c.cells.toArray 25 (0, 0)) from Ya.out)
    have ZZ := Aside0.mk (show wa.drew.heap[g3]? = some (.cells (noneC ver).cells.toArray 25 (0, 0)) from Za.out)
    clear Xa Ya Za Ba
    generalize wa.drew = wd at BB XX YY ZZ ⊢
    (apply S_val (v := .agg #[.int .i64 c.k, .int .i64 c.l, .int .i64 c.s, .int .u64 c.v, .int .i64 c.d0, .int .i64 c.d1, .int .i64 c.d2, .int .i64 c.d3, .int .i64 c.d4, .int .i64 c.m]) rfl; (first | exact wanted_none rfl | exact wanted_yes rfl rfl (by kernel_rfl)); (intro W hW R hR; have x0 := cell_of hW.1 (o := 0) rfl; have y0 := cell_of hW.2.1 (o := 0) rfl; have z0 := cell_of hW.2.2 (o := 0) rfl; have x1 := cell_of hW.1 (o := 1) rfl; have y1 := cell_of hW.2.1 (o := 1) rfl; have z1 := cell_of hW.2.2 (o := 1) rfl; have x2 := cell_of hW.1 (o := 2) rfl; have y2 := cell_of hW.2.1 (o := 2) rfl; have z2 := cell_of hW.2.2 (o := 2) rfl; have x3 := cell_of hW.1 (o := 3) rfl; have y3 := cell_of hW.2.1 (o := 3) rfl; have z3 := cell_of hW.2.2 (o := 3) rfl; have x4 := cell_of hW.1 (o := 4) rfl; have y4 := cell_of hW.2.1 (o := 4) rfl; have z4 := cell_of hW.2.2 (o := 4) rfl; have x5 := cell_of hW.1 (o := 5) rfl; have y5 := cell_of hW.2.1 (o := 5) rfl; have z5 := cell_of hW.2.2 (o := 5) rfl; have x6 := cell_of hW.1 (o := 6) rfl; have y6 := cell_of hW.2.1 (o := 6) rfl; have z6 := cell_of hW.2.2 (o := 6) rfl; have x7 := cell_of hW.1 (o := 7) rfl; have y7 := cell_of hW.2.1 (o := 7) rfl; have z7 := cell_of hW.2.2 (o := 7) rfl; have x8 := cell_of hW.1 (o := 8) rfl; have y8 := cell_of hW.2.1 (o := 8) rfl; have z8 := cell_of hW.2.2 (o := 8) rfl; have x9 := cell_of hW.1 (o := 9) rfl; have y9 := cell_of hW.2.1 (o := 9) rfl; have z9 := cell_of hW.2.2 (o := 9) rfl; go_simp; exact hR)); go_frame
    (apply S_val (v := .agg #[.int .i64 c.k, .int .i64 c.l, .int .i64 c.s, .int .u64 c.v, .int .i64 c.d0, .int .i64 c.d1, .int .i64 c.d2, .int .i64 c.d3, .int .i64 c.d4, .int .i64 c.m]) rfl; (first | exact wanted_none rfl | exact wanted_yes rfl rfl (by kernel_rfl)); (intro W hW R hR; have x0 := cell_of hW.1 (o := 0) rfl; have y0 := cell_of hW.2.1 (o := 0) rfl; have z0 := cell_of hW.2.2 (o := 0) rfl; have x1 := cell_of hW.1 (o := 1) rfl; have y1 := cell_of hW.2.1 (o := 1) rfl; have z1 := cell_of hW.2.2 (o := 1) rfl; have x2 := cell_of hW.1 (o := 2) rfl; have y2 := cell_of hW.2.1 (o := 2) rfl; have z2 := cell_of hW.2.2 (o := 2) rfl; have x3 := cell_of hW.1 (o := 3) rfl; have y3 := cell_of hW.2.1 (o := 3) rfl; have z3 := cell_of hW.2.2 (o := 3) rfl; have x4 := cell_of hW.1 (o := 4) rfl; have y4 := cell_of hW.2.1 (o := 4) rfl; have z4 := cell_of hW.2.2 (o := 4) rfl; have x5 := cell_of hW.1 (o := 5) rfl; have y5 := cell_of hW.2.1 (o := 5) rfl; have z5 := cell_of hW.2.2 (o := 5) rfl; have x6 := cell_of hW.1 (o := 6) rfl; have y6 := cell_of hW.2.1 (o := 6) rfl; have z6 := cell_of hW.2.2 (o := 6) rfl; have x7 := cell_of hW.1 (o := 7) rfl; have y7 := cell_of hW.2.1 (o := 7) rfl; have z7 := cell_of hW.2.2 (o := 7) rfl; have x8 := cell_of hW.1 (o := 8) rfl; have y8 := cell_of hW.2.1 (o := 8) rfl; have z8 := cell_of hW.2.2 (o := 8) rfl; have x9 := cell_of hW.1 (o := 9) rfl; have y9 := cell_of hW.2.1 (o := 9) rfl; have z9 := cell_of hW.2.2 (o := 9) rfl; go_simp; exact hR)); go_frame
    (apply S_val rfl; (first | exact wanted_none rfl | exact wanted_yes rfl rfl (by kernel_rfl)); (intro W hW R hR; go_simp; exact hR)); go_frame
    (apply S_val rfl; (first | exact wanted_none rfl | exact wanted_yes rfl rfl (by kernel_rfl)); (intro W hW R hR; go_simp; exact hR)); go_frame
    (apply S_val rfl; (first | exact wanted_none rfl | exact wanted_yes rfl rfl (by kernel_rfl)); (intro W hW R hR; go_simp; exact hR)); go_frame
    (apply S_val rfl; (first | exact wanted_none rfl | exact wanted_yes rfl rfl (by kernel_rfl)); (intro W hW R hR; go_simp; exact hR)); go_frame
    (apply S_val rfl; (first | exact wanted_none rfl | exact wanted_yes rfl rfl (by kernel_rfl)); (intro W hW R hR; go_simp; exact hR)); go_frame
    (apply S_val rfl; (first | exact wanted_none rfl | exact wanted_yes rfl rfl (by kernel_rfl)); (intro W hW R hR; go_simp; exact hR)); go_frame
    (apply S_val rfl; (first | exact wanted_none rfl | exact wanted_yes rfl rfl (by kernel_rfl)); (intro W hW R hR; go_simp; exact hR)); go_frame
    (apply S_val (v := .agg #[.int .i64 0, .int .i64 0, .int .i64 0, .int .u64 ver, .int .i64 (-1), .int .i64 (-1), .int .i64 (-1), .int .i64 (-1), .int .i64 (-1), .int .i64 (-1)]) rfl; (first | exact wanted_none rfl | exact wanted_yes rfl rfl (by kernel_rfl)); (intro W hW R hR; have x0 := cell_of hW.1 (o := 0) rfl; have y0 := cell_of hW.2.1 (o := 0) rfl; have z0 := cell_of hW.2.2 (o := 0) rfl; have x1 := cell_of hW.1 (o := 1) rfl; have y1 := cell_of hW.2.1 (o := 1) rfl; have z1 := cell_of hW.2.2 (o := 1) rfl; have x2 := cell_of hW.1 (o := 2) rfl; have y2 := cell_of hW.2.1 (o := 2) rfl; have z2 := cell_of hW.2.2 (o := 2) rfl; have x3 := cell_of hW.1 (o := 3) rfl; have y3 := cell_of hW.2.1 (o := 3) rfl; have z3 := cell_of hW.2.2 (o := 3) rfl; have x4 := cell_of hW.1 (o := 4) rfl; have y4 := cell_of hW.2.1 (o := 4) rfl; have z4 := cell_of hW.2.2 (o := 4) rfl; have x5 := cell_of hW.1 (o := 5) rfl; have y5 := cell_of hW.2.1 (o := 5) rfl; have z5 := cell_of hW.2.2 (o := 5) rfl; have x6 := cell_of hW.1 (o := 6) rfl; have y6 := cell_of hW.2.1 (o := 6) rfl; have z6 := cell_of hW.2.2 (o := 6) rfl; have x7 := cell_of hW.1 (o := 7) rfl; have y7 := cell_of hW.2.1 (o := 7) rfl; have z7 := cell_of hW.2.2 (o := 7) rfl; have x8 := cell_of hW.1 (o := 8) rfl; have y8 := cell_of hW.2.1 (o := 8) rfl; have z8 := cell_of hW.2.2 (o := 8) rfl; have x9 := cell_of hW.1 (o := 9) rfl; have y9 := cell_of hW.2.1 (o := 9) rfl; have z9 := cell_of hW.2.2 (o := 9) rfl; go_simp; exact hR)); go_frame
    (apply S_val rfl; (first | exact wanted_none rfl | exact wanted_yes rfl rfl (by kernel_rfl)); (intro W hW R hR; go_simp; exact hR)); go_frame
    (refine S_call rfl ?_ ?_ (rNone_as ver _) ?_; (first | exact wanted_none rfl | exact wanted_yes rfl rfl (by kernel_rfl)); (focus (first | (go_simp; done) | (go_simp; simp [noneC]; done) | (go_simp; rfl)))); rintro x wb ⟨rfl, hb⟩; refine ⟨_, rfl, ⟨(blk_below XX.out hb), (blk_below YY.out hb), (blk_below ZZ.out hb)⟩, ?_⟩; have XX1 := Aside0.mk (blk_below XX.out hb); have YY1 := Aside0.mk (blk_below YY.out hb); have ZZ1 := Aside0.mk (blk_below ZZ.out hb); have BB1 := Aside0.mk (BB.out.trans (hb.mono BB.out.size)); clear hb XX YY ZZ BB; have XX := XX1; have YY := YY1; have ZZ := ZZ1; have BB := BB1; clear XX1 YY1 ZZ1 BB1; go_frame
    (apply S_val rfl; (first | exact wanted_none rfl | exact wanted_yes rfl rfl (by kernel_rfl)); (intro W hW R hR; go_simp; exact hR)); go_frame
    (apply S_val rfl; (first | exact wanted_none rfl | exact wanted_yes rfl rfl (by kernel_rfl)); (intro W hW R hR; go_simp; exact hR)); go_frame
    (apply S_val rfl; (first | exact wanted_none rfl | exact wanted_yes rfl rfl (by kernel_rfl)); (intro W hW R hR; go_simp; exact hR)); go_frame
    (apply S_val (v := .agg #[.int .i64 0, .int .i64 0, .int .i64 0, .int .u64 ver, .int .i64 (-1), .int .i64 (-1), .int .i64 (-1), .int .i64 (-1), .int .i64 (-1), .int .i64 (-1)]) rfl; (first | exact wanted_none rfl | exact wanted_yes rfl rfl (by kernel_rfl)); (intro W hW R hR; have x0 := cell_of hW.1 (o := 0) rfl; have y0 := cell_of hW.2.1 (o := 0) rfl; have z0 := cell_of hW.2.2 (o := 0) rfl; have x1 := cell_of hW.1 (o := 1) rfl; have y1 := cell_of hW.2.1 (o := 1) rfl; have z1 := cell_of hW.2.2 (o := 1) rfl; have x2 := cell_of hW.1 (o := 2) rfl; have y2 := cell_of hW.2.1 (o := 2) rfl; have z2 := cell_of hW.2.2 (o := 2) rfl; have x3 := cell_of hW.1 (o := 3) rfl; have y3 := cell_of hW.2.1 (o := 3) rfl; have z3 := cell_of hW.2.2 (o := 3) rfl; have x4 := cell_of hW.1 (o := 4) rfl; have y4 := cell_of hW.2.1 (o := 4) rfl; have z4 := cell_of hW.2.2 (o := 4) rfl; have x5 := cell_of hW.1 (o := 5) rfl; have y5 := cell_of hW.2.1 (o := 5) rfl; have z5 := cell_of hW.2.2 (o := 5) rfl; have x6 := cell_of hW.1 (o := 6) rfl; have y6 := cell_of hW.2.1 (o := 6) rfl; have z6 := cell_of hW.2.2 (o := 6) rfl; have x7 := cell_of hW.1 (o := 7) rfl; have y7 := cell_of hW.2.1 (o := 7) rfl; have z7 := cell_of hW.2.2 (o := 7) rfl; have x8 := cell_of hW.1 (o := 8) rfl; have y8 := cell_of hW.2.1 (o := 8) rfl; have z8 := cell_of hW.2.2 (o := 8) rfl; have x9 := cell_of hW.1 (o := 9) rfl; have y9 := cell_of hW.2.1 (o := 9) rfl; have z9 := cell_of hW.2.2 (o := 9) rfl; go_simp; exact hR)); go_frame
    (refine S_call rfl ?_ ?_ (RightN_as ver _) ?_; (first | exact wanted_none rfl | exact wanted_yes rfl rfl (by kernel_rfl)); (focus (first | (go_simp; done) | (go_simp; simp [noneC]; done) | (go_simp; rfl)))); rintro x wc ⟨rfl, hb⟩; refine ⟨_, rfl, ⟨(blk_below XX.out hb), (blk_below YY.out hb), (blk_below ZZ.out hb)⟩, ?_⟩; have XX2 := Aside0.mk (blk_below XX.out hb); have YY2 := Aside0.mk (blk_below YY.out hb); have ZZ2 := Aside0.mk (blk_below ZZ.out hb); have BB2 := Aside0.mk (BB.out.trans (hb.mono BB.out.size)); clear hb XX YY ZZ BB; have XX := XX2; have YY := YY2; have ZZ := ZZ2; have BB := BB2; clear XX2 YY2 ZZ2 BB2; go_frame
    (apply S_val rfl; (first | exact wanted_none rfl | exact wanted_yes rfl rfl (by kernel_rfl)); (intro W hW R hR; go_simp; exact hR)); go_frame
    (apply S_val rfl; (first | exact wanted_none rfl | exact wanted_yes rfl rfl (by kernel_rfl)); (intro W hW R hR; go_simp; exact hR)); go_frame
    (apply S_val rfl; (first | exact wanted_none rfl | exact wanted_yes rfl rfl (by kernel_rfl)); (intro W hW R hR; go_simp; exact hR)); go_frame
    (apply S_val rfl; (first | exact wanted_none rfl | exact wanted_yes rfl rfl (by kernel_rfl)); (intro W hW R hR; go_simp; exact hR)); go_frame
    (apply S_val rfl; (first | exact wanted_none rfl | exact wanted_yes rfl rfl (by kernel_rfl)); (intro W hW R hR; go_simp; exact hR)); go_frame
    (refine S_off (wanted_no (b := true) (j := 21) (d := 47) rfl rfl (by kernel_rfl)) ⟨XX.out, YY.out, ZZ.out⟩ ?_); go_frame
    (refine S_off (wanted_no (b := true) (j := 21) (d := 47) rfl rfl (by kernel_rfl)) ⟨XX.out, YY.out, ZZ.out⟩ ?_); go_frame
    (apply S_val rfl; (first | exact wanted_none rfl | exact wanted_yes rfl rfl (by kernel_rfl)); (intro W hW R hR; go_simp; exact hR)); go_frame
    (apply S_val rfl; (first | exact wanted_none rfl | exact wanted_yes rfl rfl (by kernel_rfl)); (intro W hW R hR; go_simp; exact hR)); go_frame
    (apply S_val rfl; (first | exact wanted_none rfl | exact wanted_yes rfl rfl (by kernel_rfl)); (intro W hW R hR; go_simp; exact hR)); go_frame
    apply S_nil
    go_wp2
    go_ret
    exact ⟨rfl, BB.out⟩
end Go.Proofs.Ytdcmahndbmonbaa.Fr
