/- RefA, RefB, RefC, RefD, RefE, RefF, TrioA in one text. -/
import Derived.Test.YtkbhilhefnahpaaGreatViewY
import Derived.Test.YtkbhilhefnahpaaGreatCpY
import Derived.Test.YtkbhilhefnahpaaGreatPrint12
import Derived.Test.YtkbhilhefnahpaaGreatPrint5
import Derived.Test.YtkbhilhefnahpaaGreatHArr
namespace Go.Proofs.YtkbhilhefnahpaaGreat.Rf
open Go Go.RowKit Go.Proofs.YtkbhilhefnahpaaGreat.ML Go.Proofs.YtkbhilhefnahpaaGreat.Mem Go.Proofs.YtkbhilhefnahpaaGreat.Vw Go.Proofs.YtkbhilhefnahpaaGreat.Print Go.Proofs.YtkbhilhefnahpaaGreatW.PrintWords Go.Proofs.YtkbhilhefnahpaaGreatW.PrintLast Go.Proofs.YtkbhilhefnahpaaGreatW.PrintMore
set_option linter.unusedVariables false
set_option linter.unusedSimpArgs false
structure Rp where
  p : Nat
  bb : Nat
  bn : Nat
  cb : Nat
  cn : Nat
  A1 : Option Addr
  c1 : Nat
  A2 : Option Addr
  c2 : Nat
structure RS where
  base : List Int
  now : List Int
  sm : List Bool
  l1 : List Int
  l2 : List Int
abbrev rptr (r : Rp) : Value := .pointer (some ⟨r.p, 0, none⟩)
def Rp.list (r : Rp) : List Nat := [r.p, r.bb, r.bn]
/-- A row of words that may be written. -/
def Row (w : World) (b cap : Nat) (l : List Int) : Prop := ∃ tail : List Value, w.heap[b]? = some (.cells (l.map (Value.int .u64) ++ tail).toArray 34 (0, 0)) ∧ l.length = 2824 ∧ l.length + tail.length = cap ∧ cap ≤ maxLen ∧ ∀ v ∈ l, okw v
def yY (r : Rp) (R : RS) : List Value := [.slice (some ⟨r.bb, 0, none⟩) 2824 r.cb, .slice (some ⟨r.bn, 0, none⟩) 2824 r.cn] ++ R.sm.map Value.bool ++ [.slice r.A1 R.l1.length r.c1, .slice r.A2 R.l2.length r.c2]
structure IsRef (w0 w : World) (r : Rp) (R : RS) : Prop where
  cells : w.heap[r.p]? = some (.cells (yY r R).toArray 73 (0, 0))
  sm : R.sm.length = 48
  base : Row w r.bb r.cb R.base
  now : Row w r.bn r.cn R.now
  a1 : Kd.C (Kd.int .i64) w0 r.A1 R.l1.length R.l1
  a2 : Kd.C (Kd.int .i64) w0 r.A2 R.l2.length R.l2
  h1 : R.l1.length ≤ r.c1 ∧ R.l1.length ≤ 9223372036854775807
  h2 : R.l2.length ≤ r.c2 ∧ R.l2.length ≤ 9223372036854775807
  ne : r.p ≠ r.bb ∧ r.p ≠ r.bn ∧ r.bb ≠ r.bn
  age : ∀ b ∈ r.list, w0.heap.size ≤ b
theorem Row.lt {w : World} {b cap : Nat} {l : List Int} (h : Row w b cap l) : b < w.heap.size := by
  obtain ⟨_, h, _⟩ := h
  exact (Array.getElem?_eq_some_iff.1 h).1
theorem Row.block {w w' : World} {b cap : Nat} {l : List Int} (h : Row w b cap l) (hb : w'.heap[b]? = w.heap[b]?) : Row w' b cap l := by
  obtain ⟨t, h, r⟩ := h
  exact ⟨t, hb.trans h, r⟩
theorem IsRef.lts {w0 w : World} {r : Rp} {R : RS} (h : IsRef w0 w r R) : ∀ b ∈ r.list, b < w.heap.size := by
  intro b hb
  simp only [Rp.list, List.mem_cons, List.not_mem_nil, or_false] at hb
  rcases hb with rfl | rfl | rfl
  · exact (Array.getElem?_eq_some_iff.1 h.cells).1
  · exact h.base.lt
  · exact h.now.lt
theorem IsRef.Zw {w0 w w' : World} {r : Rp} {R : RS} (h : IsRef w0 w r R) (hb : ∀ b ∈ r.list, w'.heap[b]? = w.heap[b]?) : IsRef w0 w' r R :=
  ⟨(hb _ (by simp [Rp.list])).trans h.cells, h.sm, h.base.block (hb _ (by simp [Rp.list])), h.now.block (hb _ (by simp [Rp.list])), h.a1, h.a2, h.h1, h.h2, h.ne, h.age⟩
theorem IsRef.kept {w0 w w' : World} {r : Rp} {R : RS} (h : IsRef w0 w r R) {L : List Nat} (ht : Turn L w w') (hL : ∀ b ∈ r.list, b ∉ L) : IsRef w0 w' r R :=
  h.Zw fun b hb => ht.block b (h.lts b hb) (hL b hb)
theorem IsRef.below {w0 w w' : World} {r : Rp} {R : RS} (h : IsRef w0 w r R) (hb : Below w.heap.size w w') : IsRef w0 w' r R :=
  h.Zw fun b hm => hb.block b (h.lts b hm)
theorem Row.cell {w : World} {b cap : Nat} {l : List Int} (h : Row w b cap l) (i : Nat) (hi : i < 2824) : w.cell? ⟨b, i, none⟩ = some (.int .u64 (l.getD i 0)) ∧ w.frozen? ⟨b, i, none⟩ = false ∧ okw (l.getD i 0) := by
  obtain ⟨t, h, hl, _, _, hw⟩ := h
  have hil : i < l.length := by omega
  refine ⟨cell_of h (o := i) ?_, ZC h, ?_⟩
  · rw [List.getElem?_toArray, List.getElem?_append_left (by simpa using hil), List.getElem?_map, List.getElem?_eq_getElem hil, List.getD_eq_getElem?_getD, List.getElem?_eq_getElem hil]; rfl
  · rw [List.getD_eq_getElem?_getD, List.getElem?_eq_getElem hil]; exact hw _ (List.getElem_mem hil)
theorem Row.readC {w : World} {b cap : Nat} {l : List Int} (h : Row w b cap l) (o n : Nat) (ho : o + n ≤ 2824) : Kd.C (Kd.int .u64) w (some ⟨b, o, none⟩) n ((l.drop o).take n) := by
  have hl : l.length = 2824 := by obtain ⟨_, _, hl, _⟩ := h; exact hl
  have hn : ((l.drop o).take n).length = n := by rw [List.length_take, List.length_drop]; omega
  refine ⟨hn, by obtain ⟨_, _, _, _, hm, _⟩ := h; unfold maxLen at hm; omega, fun h0 => ⟨⟨b, o, none⟩, rfl, fun j x hx => ?_⟩⟩
  have hj : j < n := by have := (List.getElem?_eq_some_iff.1 hx).1; omega
  refine ⟨[.int .u64 x], rfl, rfl, fun i u hu => ?_⟩
  have hi : i = 0 := by have := (List.getElem?_eq_some_iff.1 hu).1; simpa using this
  subst hi
  have hu : u = .int .u64 x := by simpa using hu.symm
  subst hu
  obtain ⟨h1, _, _⟩ := h.cell (o + j) (by omega)
  have e : l.getD (o + j) 0 = x := by
    rw [List.getElem?_take] at hx
    rw [if_pos hj, List.getElem?_drop] at hx
    rw [List.getD_eq_getElem?_getD, hx]; rfl
  rw [e] at h1
  have ea : (⟨b, o, none⟩ : Addr).add (j * (Kd.int IntKind.u64).sz + 0) = ⟨b, o + j, none⟩ := by
    rw [ZV, show (Kd.int IntKind.u64).sz = 1 from rfl, Nat.mul_one, Nat.add_zero]
  rw [ea]
  exact h1
/-- What a walk is handed. -/
structure IsRef.Facts (w : World) (r : Rp) (R : RS) : Prop where
  c0 : w.cell? ⟨r.p, 0, none⟩ = some (.slice (some ⟨r.bb, 0, none⟩) 2824 r.cb)
  c1 : w.cell? ⟨r.p, 1, none⟩ = some (.slice (some ⟨r.bn, 0, none⟩) 2824 r.cn)
  c50 : w.cell? ⟨r.p, 50, none⟩ = some (.slice r.A1 R.l1.length r.c1)
  c51 : w.cell? ⟨r.p, 51, none⟩ = some (.slice r.A2 R.l2.length r.c2)
  fz : ∀ o, w.frozen? ⟨r.p, o, none⟩ = false
theorem cellsR_at {r : Rp} {R : RS} (h : R.sm.length = 48) : (yY r R)[50]? = some (.slice r.A1 R.l1.length r.c1) ∧ (yY r R)[51]? = some (.slice r.A2 R.l2.length r.c2) := by
  unfold yY
  constructor
  · rw [List.getElem?_append_right (by simp [h]), show 50 - ([Value.slice (some ⟨r.bb, 0, none⟩) 2824 r.cb, .slice (some ⟨r.bn, 0, none⟩) 2824 r.cn] ++ R.sm.map Value.bool).length = 0 by simp [h]]; rfl
  · rw [List.getElem?_append_right (by simp [h]), show 51 - ([Value.slice (some ⟨r.bb, 0, none⟩) 2824 r.cb, .slice (some ⟨r.bn, 0, none⟩) 2824 r.cn] ++ R.sm.map Value.bool).length = 1 by simp [h]]; rfl
theorem IsRef.facts {w0 w : World} {r : Rp} {R : RS} (h : IsRef w0 w r R) : IsRef.Facts w r R :=
  ⟨cell_of h.cells rfl, cell_of h.cells rfl, cell_of h.cells (by rw [List.getElem?_toArray]; exact (cellsR_at h.sm).1), cell_of h.cells (by rw [List.getElem?_toArray]; exact (cellsR_at h.sm).2), fun _ => ZC h.cells⟩
set_option maxHeartbeats 1000000 in
theorem Zr {w0 w : World} {r : Rp} {R : RS} (h : IsRef w0 w r R) (i : Int) (hi : oki i) : Calls Tryz.prog 40 #[rptr r, .int .i64 i] w fun e w' => ∃ v, e = .returned (.int .u64 v) ∧ w = w' := by
  have c1 := h.facts.c1
  by_cases h0 : i < 0
  · have g0 : decide (i < 0) = true := decide_eq_true h0
    clear h h0
    go_enter Tryz.func40, Tryz.ntmps40
    go_wp2
    go_ret
    exact ⟨_, rfl, rfl⟩
  · have g0 : decide (i < 0) = false := decide_eq_false h0
    by_cases h1 : (2824 : Int) ≤ i
    · have g1 : decide ((2824 : Int) ≤ i) = true := decide_eq_true h1
      clear h h0
      go_enter Tryz.func40, Tryz.ntmps40
      go_wp2
      go_ret
      exact ⟨_, rfl, rfl⟩
    · have g1 : decide ((2824 : Int) ≤ i) = false := decide_eq_false h1
      obtain ⟨n, rfl⟩ := Int.eq_ofNat_of_zero_le (show 0 ≤ i by omega)
      obtain ⟨x0, _, _⟩ := h.now.cell n (by omega)
      have hn : n < 2824 := by omega
      clear h h0 h1
      go_enter Tryz.func40, Tryz.ntmps40
      go_wp2
      go_ret
      exact ⟨_, rfl, rfl⟩
def hasB (l : List Int) (n : Int) : Bool := l.any fun x => decide (x = n)
theorem Has_ev (l : List Int) (n : Int) (hl : l.length ≤ 9223372036854775807) : ∃ k, escritoireref08_Has.f k l n = some (hasB l n) := by
  have key : ∀ (d i : Nat), i + d = l.length → Ev (fun k => escritoireref08_Has.l0 k l n (i : Int)) ((l.drop i).any fun x => decide (x = n)) := by
    intro d
    induction d with
    | zero =>
      intro i hi
      rw [List.drop_of_length_le (by omega)]
      exact Ev.step (f := fun _ => some false) (fun k => by simp only [escritoireref08_Has.l0]; rw [if_neg (by omega)]) (Ev.now _)
    | succ d ih =>
      intro i hi
      have hil : i < l.length := by omega
      rw [List.drop_eq_getElem_cons hil, List.any_cons]
      have er : rd l (i : Int) = l[i] := by unfold rd; simp [hil]
      refine Ev.step (fun k => by simp only [escritoireref08_Has.l0]; rw [if_pos (by omega), if_pos (by omega), er]) ?_
      by_cases h : l[i] = n
      · rw [decide_eq_true h]; exact Ev.congr (f := fun _ => some true) (fun k => if_pos h) (Ev.now _)
      · rw [decide_eq_false h, Bool.false_or]
        exact Ev.congr (fun k => by rw [if_neg h, show wrap64 ((i : Int) + 1) = ((i + 1 : Nat) : Int) by unfold wrap64; omega]) (ih (i + 1) (by omega))
  exact (key l.length 0 (by omega)).rounds
theorem Has_as {w : World} {A : Option Addr} {c : Nat} {l : List Int} (hr : Kd.C (Kd.int .i64) w A l.length l) (hc : l.length ≤ c ∧ l.length ≤ 9223372036854775807) (n : Int) (b : Bool) (hb : hasB l n = b) :
    Calls Tryz.prog 36 #[.slice A l.length c, .int .i64 n] w fun e w' => e = .returned (.bool b) ∧ zL w w' := by
  subst hb
  obtain ⟨k, hk⟩ := Has_ev l n hc.2
  exact escritoireref08_Has.calls k A c l n _ w hr hc.1 hk
def RS.fresh (R : RS) (i : Int) : Bool := decide (0 ≤ i ∧ i < 96) && decide (R.base.getD (200 + i).toNat 0 = 0) && decide (R.now.getD (200 + i).toNat 0 = 0) && !hasB R.l1 i
set_option maxHeartbeats 2000000 in
theorem Yo {w0 w : World} {r : Rp} {R : RS} (h : IsRef w0 w r R) (hb : Below w0.heap.size w0 w) (i : Int) (hi : oki i) : Calls Tryz.prog 34 #[rptr r, .int .i64 i] w fun e w' => e = .returned (.bool (R.fresh i)) ∧ Below w.heap.size w w' := by
  have c0 := h.facts.c0
  have c1 := h.facts.c1
  have c50 := h.facts.c50
  have HC := ze.mk (Kd.zZ h.a1 hb)
  have HH := ze.mk h.h1
  by_cases h0 : 0 ≤ i
  · have g0 : decide (0 ≤ i) = true := decide_eq_true h0
    by_cases h1 : i < 96
    · have g1 : decide (i < 96) = true := decide_eq_true h1
      obtain ⟨n, rfl⟩ := Int.eq_ofNat_of_zero_le h0
      have hn : n < 96 := by omega
      obtain ⟨x0, _, _⟩ := h.base.cell (200 + n) (by omega)
      obtain ⟨y0, _, _⟩ := h.now.cell (200 + n) (by omega)
      have e1 : ((200 : Int) + (n : Int)).toNat = 200 + n := by omega
      unfold RS.fresh
      rw [e1, decide_eq_true (show (0 : Int) ≤ n ∧ (n : Int) < 96 by omega), Bool.true_and]
      clear h0 h1 hb hi
      generalize R.base.getD (200 + n) 0 = x at x0 ⊢
      generalize R.now.getD (200 + n) 0 = y at y0 ⊢
      clear h
      by_cases hx : x = 0
      · have k1 : decide (x = 0) = true := decide_eq_true hx
        rw [k1, Bool.true_and]
        subst hx
        by_cases hy : y = 0
        · rw [decide_eq_true hy, Bool.true_and]
          subst hy
          obtain ⟨b, hb⟩ : ∃ b, hasB R.l1 (n : Int) = b := ⟨_, rfl⟩
          rw [hb]
          go_enter Tryz.func34, Tryz.ntmps34
          go_wp2_with (go_at_call 36; refine (Has_as HC.o HH.o _ b hb).mono ?_; rintro e w1 ⟨rfl, hd⟩; have B1 := ze.mk hd.below; clear hd)
          go_ret
          exact ⟨rfl, B1.o⟩
        · have k2 : decide (y = 0) = false := decide_eq_false hy
          have k3 : (y = 0) = False := eq_false hy
          rw [k2, Bool.false_and]
          go_enter Tryz.func34, Tryz.ntmps34
          go_wp2
          go_ret
          exact ⟨rfl, Below.refl _ _⟩
      · have k1 : decide (x = 0) = false := decide_eq_false hx
        have k3 : (x = 0) = False := eq_false hx
        rw [k1, Bool.false_and, Bool.false_and]
        go_enter Tryz.func34, Tryz.ntmps34
        go_wp2
        go_ret
        exact ⟨rfl, Below.refl _ _⟩
    · have g1 : decide (i < 96) = false := decide_eq_false h1
      have e : R.fresh i = false := by unfold RS.fresh; rw [decide_eq_false (by omega)]; rfl
      rw [e]
      clear h h0 h1
      go_enter Tryz.func34, Tryz.ntmps34
      go_wp2
      go_ret
      exact ⟨rfl, Below.refl _ _⟩
  · have g0 : decide (0 ≤ i) = false := decide_eq_false h0
    have e : R.fresh i = false := by unfold RS.fresh; rw [decide_eq_false (by omega)]; rfl
    rw [e]
    clear h h0
    go_enter Tryz.func34, Tryz.ntmps34
    go_wp2
    go_ret
    exact ⟨rfl, Below.refl _ _⟩
end Go.Proofs.YtkbhilhefnahpaaGreat.Rf
namespace Go.Proofs.YtkbhilhefnahpaaGreat.Rf
open Go Go.RowKit Go.Proofs.YtkbhilhefnahpaaGreat.ML Go.Proofs.YtkbhilhefnahpaaGreat.Mem Go.Proofs.YtkbhilhefnahpaaGreat.Vw Go.Proofs.YtkbhilhefnahpaaGreat.Print Go.Proofs.YtkbhilhefnahpaaGreatW.PrintWords Go.Proofs.YtkbhilhefnahpaaGreatW.PrintLast Go.Proofs.YtkbhilhefnahpaaGreatW.PrintMore
set_option linter.unusedVariables false
set_option linter.unusedSimpArgs false
theorem open_f (a : Int) : escritoireref05_Open.f 2 a = some (PlanF.openB a) := by
  unfold escritoireref05_Open.f escritoireref05_What.f PlanF.openB
  by_cases h0 : a < 0
  · rw [if_pos h0, decide_eq_false (by omega)]; rfl
  · rw [if_neg h0]
    simp only [escritoireref05_What.j0]
    by_cases h1 : a ≥ 2824
    · rw [if_pos (decide_eq_true h1), decide_eq_false (by omega)]; rfl
    · rw [if_neg (by simpa using h1)]
      by_cases h2 : a < 8
      · rw [if_pos h2, decide_eq_false (by omega)]; rfl
      · rw [if_neg h2]
        by_cases h3 : a < 200
        · rw [if_pos h3, decide_eq_true (by omega)]; rfl
        · rw [if_neg h3]
          by_cases h4 : a < 296
          · rw [if_pos h4, decide_eq_true (by omega)]; rfl
          · rw [if_neg h4]
            by_cases h5 : a < 1288
            · rw [if_pos h5, decide_eq_false (by omega)]; rfl
            · rw [if_neg h5, decide_eq_true (by omega)]; rfl
def RS.put (R : RS) (i : Nat) (v : Int) : RS := { R with now := R.now.set i v }
theorem Row.set {w : World} {b cap : Nat} {l : List Int} (h : Row w b cap l) {i : Nat} (hi : i < 2824) {v : Int} (hv : okw v) : Row (w.setCell ⟨b, i, none⟩ (.int .u64 v)) b cap (l.set i v) := by
  obtain ⟨t, h, hl, hc, hm, hw⟩ := h
  refine ⟨t, ?_, by rw [List.length_set]; exact hl, by rw [List.length_set]; exact hc, hm, fun x hx => ?_⟩
  · rw [yu _ h]
    congr 2
    apply Array.toList_inj.1
    rw [Array.toList_setIfInBounds]
    show ((l.map (Value.int .u64) ++ t).set i _) = (l.set i v).map (Value.int .u64) ++ t
    rw [List.set_append_left _ _ (by rw [List.length_map]; omega), ← List.map_set]
  · rcases List.mem_or_eq_of_mem_set hx with hx | rfl
    · exact hw x hx
    · exact hv
theorem IsRef.set {w0 w : World} {r : Rp} {R : RS} (h : IsRef w0 w r R) {i : Nat} (hi : i < 2824) {v : Int} (hv : okw v) : IsRef w0 (w.setCell ⟨r.bn, i, none⟩ (.int .u64 v)) r (R.put i v) ∧ Turn [r.bn] w (w.setCell ⟨r.bn, i, none⟩ (.int .u64 v)) := by
  have t := Turn.setCell w ⟨r.bn, i, none⟩ (.int .u64 v)
  refine ⟨⟨(t.block r.p (h.lts _ (by simp [Rp.list])) (by simpa using h.ne.2.1)).trans h.cells, h.sm, h.base.block (t.block r.bb (h.lts _ (by simp [Rp.list])) (by simpa using h.ne.2.2)), h.now.set hi hv, h.a1, h.a2, h.h1, h.h2, h.ne, h.age⟩, t⟩
theorem Open_as (w : World) (i : Int) (b : Bool) (hb : PlanF.openB i = b) : Calls Tryz.prog 49 #[.int .i64 i] w fun e w' => e = .returned (.bool b) ∧ Below w.heap.size w w' := by
  subst hb
  refine (escritoireref05_Open.calls 2 i _ w (open_f i)).mono ?_
  rintro e w' ⟨rfl, hd⟩
  exact ⟨rfl, by first | exact hd | exact hd.below⟩
set_option maxHeartbeats 2000000 in
theorem ZP {w0 w : World} {r : Rp} {R : RS} (h : IsRef w0 w r R) (i v : Int) (hi : oki i) (hv : okw v) : Calls Tryz.prog 23 #[rptr r, .int .i64 i, .int .u64 v] w fun e w' => ∃ (x : Int) (R' : RS), e = .returned (.int .i64 x) ∧ IsRef w0 w' r R' ∧ R'.l1 = R.l1 ∧ R'.l2 = R.l2 ∧ Turn [r.bn] w w' := by
  have HR := ze.mk h
  cases hb : PlanF.openB i with
  | false =>
    clear h
    go_enter Tryz.func23, Tryz.ntmps23
    go_wp2_with (go_at_call 49; refine (Open_as _ _ false hb).mono ?_; rintro e w1 ⟨rfl, hb1⟩; have B1 := ze.mk hb1; clear hb1)
    go_ret
    exact ⟨_, R, rfl, HR.o.below B1.o, rfl, rfl, Turn.of_below B1.o _⟩
  | true =>
    have hr : 0 ≤ i ∧ i < 2824 := by unfold PlanF.openB at hb; have := of_decide_eq_true hb; omega
    obtain ⟨n, rfl⟩ := Int.eq_ofNat_of_zero_le hr.1
    have hn : n < 2824 := by omega
    have HV := ze.mk hv
    clear h hr hi hv
    go_enter Tryz.func23, Tryz.ntmps23
    go_wp2_with (go_at_call 49; refine (Open_as _ _ true hb).mono ?_; rintro e w1 ⟨rfl, hb1⟩; have R1 := ze.mk (HR.o.below hb1); have B1 := ze.mk hb1; have c1 := R1.o.facts.c1; obtain ⟨x0, f0, _⟩ := R1.o.now.cell n hn; clear hb1)
    go_ret
    obtain ⟨h1, h2⟩ := R1.o.set hn HV.o
    exact ⟨_, _, rfl, h1, rfl, rfl, (Turn.of_below B1.o _).trans h2⟩
end Go.Proofs.YtkbhilhefnahpaaGreat.Rf
namespace Go.Proofs.YtkbhilhefnahpaaGreat.Rf
open Go Go.RowKit Go.Proofs.YtkbhilhefnahpaaGreat.ML Go.Proofs.YtkbhilhefnahpaaGreat.Mem Go.Proofs.YtkbhilhefnahpaaGreat.Vw Go.Proofs.YtkbhilhefnahpaaGreat.Print Go.Proofs.YtkbhilhefnahpaaGreatW.PrintWords Go.Proofs.YtkbhilhefnahpaaGreatW.PrintLast Go.Proofs.YtkbhilhefnahpaaGreatW.PrintMore
set_option linter.unusedVariables false
set_option linter.unusedSimpArgs false
theorem YG : (Tryz.prog.info? 34).map (fun i => (i.zero, i.size, i.bytes)) = some (some (.int .u64 0), 1, 8) := by kernel_rfl
theorem Row.of_R {e : Nat} {w : World} {base : Nat} {ok : Nat → Prop} {v : Value} {l : List Int} (h : Kd.R (Kd.int .u64) 34 w base ok v l) (hl : l.length = 2824) (hw : ∀ x ∈ l, okw x) : ∃ g cap, v = .slice (some ⟨g, 0, none⟩) 2824 cap ∧ Row w g cap l ∧ base ≤ g := by
  obtain ⟨h1, h2⟩ := row_of_R h
  rcases h2 with ⟨_, h2⟩ | ⟨g, cap, cur, hv, hb, hh, h3, h4, h5, h6⟩
  · omega
  · rw [hl] at hv
    refine ⟨g, cap, hv, ⟨cur.toList.drop 2824, ?_, hl, ?_, h4, hw⟩, hb⟩
    · rw [hh]
      congr 2
      apply Array.toList_inj.1
      have e6 : cur.toList.take 2824 = l.map (Value.int .u64) := by
        have := h6
        simpa [hl] using this
      rw [← e6]
      exact (List.take_append_drop 2824 cur.toList).symm
    · have e5 : cur.size = cap := by simpa using h5
      have e3 : 2824 ≤ cap := by rw [hl] at h3; simpa using h3
      have e7 : (cur.toList.drop 2824).length = cur.size - 2824 := by simp
      rw [e7, hl]
      omega
set_option maxHeartbeats 4000000 in
set_option maxRecDepth 100000 in
theorem Yp {w0 w : World} {r : Rp} {R : RS} (h : IsRef w0 w r R) (i : Int) (hi : oki i) : Calls Tryz.prog 29 #[rptr r, .int .i64 i] w fun e w' => ∃ (A : Option Addr) (n c : Nat) (l : List Int) (x : Int), e = .returned (.tuple #[.slice A n c, .int .i64 x]) ∧ Kd.C (Kd.int .u64) w' A n l ∧ l.length = n ∧ n ≤ 16 ∧ n ≤ c ∧ Below w.heap.size w w' := by
  have c1 := h.facts.c1
  by_cases h0 : i < 0
  · have g0 : decide (i < 0) = true := decide_eq_true h0
    clear h h0
    go_enter Tryz.func29, Tryz.ntmps29
    go_wp2
    go_returns
    exact ⟨none, 0, 0, [], 1, rfl, ⟨rfl, by decide, fun h => absurd h (by simp)⟩, rfl, by omega, by omega, Below.refl _ _⟩
  · have g0 : decide (i < 0) = false := decide_eq_false h0
    by_cases h1 : (96 : Int) ≤ i
    · have g1 : decide ((96 : Int) ≤ i) = true := decide_eq_true h1
      clear h h0
      go_enter Tryz.func29, Tryz.ntmps29
      go_wp2
      go_returns
      exact ⟨none, 0, 0, [], 1, rfl, ⟨rfl, by decide, fun h => absurd h (by simp)⟩, rfl, by omega, by omega, Below.refl _ _⟩
    · have g1 : decide ((96 : Int) ≤ i) = false := decide_eq_false h1
      obtain ⟨n, rfl⟩ := Int.eq_ofNat_of_zero_le (show 0 ≤ i by omega)
      have hn : n < 96 := by omega
      have HC := ze.mk (h.now.readC (1288 + 16 * n) 16 (by omega))
      have hl16 : ((R.now.drop (1288 + 16 * n)).take 16).length = 16 := HC.o.1
      have hcap : 2824 ≤ r.cn := by obtain ⟨_, _, h2, h3, _⟩ := h.now; omega
      have hu := Tryz.underlying24
      clear h h0 h1 hi
      generalize (R.now.drop (1288 + 16 * n)).take 16 = l at HC hl16
      have HL := ze.mk hl16
      clear hl16
      go_enter Tryz.func29, Tryz.ntmps29
      go_wp2_with (first
        | ((with_reducible refine yo (b := .append) (xs := #[.const (.slice none 0 0), .tmp 22]) rfl ?_); at_builtin; refine Kd.Zm (Kd.int .u64) (w0 := w) w.heap.size rfl (.const (.slice none 0 0)) (.tmp 22) 24 34 (.int .u64 0) 8 rfl Tryz.underlying24 YG rfl (by decide) (by omega) (.slice none 0 0) [] l (some ⟨r.bn, 1288 + 16 * n, none⟩) (1304 + 16 * n - (1288 + 16 * n)) (r.cn - (1288 + 16 * n)) (fun _ => True) (fun _ => False) rfl (by first | rfl | (go_simp; done)) (Kd.R_nil _ _ _ _ _) (by rw [show 1304 + 16 * n - (1288 + 16 * n) = 16 by omega]; exact HC.o) (fun _ _ h => h) (fun _ h => h.elim) (fun _ _ => trivial) (Below.refl _ _) (Nat.le_refl _) (by have := HL.o; simp; omega) ?_; intro v7 w7 ho7 hb7 hg7 hat7; clear hg7 hat7; have HO7 := ze.mk ho7; have HB7 := ze.mk hb7; clear ho7 hb7))
      go_returns
      obtain ⟨A, c, hv⟩ := Kd.yc HO7.o
      obtain ⟨A', c', hv', hc', hC'⟩ := Kd.R_reads HO7.o
      subst hv'
      exact ⟨A', _, c', _, 0, rfl, hC', rfl, by have := HL.o; simp; omega, hc', HB7.o⟩
set_option maxHeartbeats 4000000 in
set_option maxRecDepth 100000 in
theorem ZH {w0 w : World} {r : Rp} {R : RS} (h : IsRef w0 w r R) (hb : Below w0.heap.size w0 w) (i : Int) (hi : oki i) {A : Option Addr} {c : Nat} {l : List Int} (hr : Kd.C (Kd.int .u64) w0 A l.length l) (hw : ∀ v ∈ l, okw v) :
    Calls Tryz.prog 32 #[rptr r, .int .i64 i, .slice A l.length c] w fun e w' => ∃ (x : Int) (R' : RS), e = .returned (.int .i64 x) ∧ IsRef w0 w' r R' ∧ R'.l1 = R.l1 ∧ R'.l2 = R.l2 ∧ Turn [r.bn] w w' := by
  have HR := ze.mk h
  by_cases h0 : i < 0
  · have g0 : decide (i < 0) = true := decide_eq_true h0
    clear h h0 hw
    go_enter Tryz.func32, Tryz.ntmps32
    go_wp2
    go_ret
    exact ⟨_, R, rfl, HR.o, rfl, rfl, Turn.refl _ _⟩
  · have g0 : decide (i < 0) = false := decide_eq_false h0
    by_cases h1 : (96 : Int) ≤ i
    · have g1 : decide ((96 : Int) ≤ i) = true := decide_eq_true h1
      clear h h0 hw
      go_enter Tryz.func32, Tryz.ntmps32
      go_wp2
      go_ret
      exact ⟨_, R, rfl, HR.o, rfl, rfl, Turn.refl _ _⟩
    · have g1 : decide ((96 : Int) ≤ i) = false := decide_eq_false h1
      by_cases h2 : (16 : Int) < (l.length : Int)
      · have g2 : decide ((16 : Int) < (l.length : Int)) = true := decide_eq_true h2
        clear h h0 hw h1 h2
        go_enter Tryz.func32, Tryz.ntmps32
        go_wp2
        go_ret
        exact ⟨_, R, rfl, HR.o, rfl, rfl, Turn.refl _ _⟩
      · have g2 : decide ((16 : Int) < (l.length : Int)) = false := decide_eq_false h2
        obtain ⟨n, rfl⟩ := Int.eq_ofNat_of_zero_le (show 0 ≤ i by omega)
        have hn : n < 96 := by omega
        have hl : l.length ≤ 16 := by omega
        have HC := ze.mk hr
        have HW := ze.mk hw
        have HB := ze.mk hb
        clear h h0 hw h1 h2 hr hb hi
        go_enter Tryz.func32, Tryz.ntmps32
        go_wp2
        go_loopw [7] (fun x wr => ∃ j : Nat, j ≤ 16 ∧ x = .int .i64 (j : Int) ∧ ∃ R' : RS, IsRef w0 wr r R' ∧ R'.l1 = R.l1 ∧ R'.l2 = R.l2 ∧ Turn [r.bn] w wr) (fun x _ => 16 - (intOf x).toNat)
        case atStart => exact ⟨0, by omega, rfl, R, HR.o, rfl, rfl, Turn.refl _ _⟩
        case round =>
          obtain ⟨j, hj, rfl, R', hR', e1, e2, ht⟩ := hrel
          have RR := ze.mk hR'
          have TT := ze.mk ht
          have E1 := ze.mk e1
          have E2 := ze.mk e2
          have BB := ze.mk (HB.o.trans (ht.below HB.o.size (fun x hx => by simp at hx; subst hx; exact hR'.age _ (by simp [Rp.list]))))
          clear hR' ht e1 e2
          by_cases hlt : j < 16
          · have g3 : decide ((j : Int) < 16) = true := decide_eq_true (by omega)
            have hk : 1288 + 16 * n + j < 2824 := by omega
            obtain ⟨x0, f0, _⟩ := RR.o.now.cell (1288 + 16 * n + j) hk
            have c1 := RR.o.facts.c1
            by_cases hjl : j < l.length
            · have g4 : decide ((j : Int) < (l.length : Int)) = true := decide_eq_true (by omega)
              obtain ⟨ad, hA, hx⟩ := Kd.zX (Kd.zZ HC.o BB.o) (j : Int) (by omega) (by omega)
              have hkd : okw (rd l (j : Int)) := by unfold rd; rw [Int.toNat_natCast, List.getD_eq_getElem?_getD, List.getElem?_eq_getElem hjl]; exact HW.o _ (List.getElem_mem hjl)
              generalize rd l (j : Int) = kv at hx hkd
              replace hx : wr.cell? (ad.add j) = some (.int .u64 kv) := by simpa using hx
              subst hA
              have HK := ze.mk hkd
              clear hkd
              go_wp2
              go_roundw
              case rel =>
                obtain ⟨q1, q2⟩ := RR.o.set hk HK.o
                exact ⟨j + 1, by omega, by go_num, _, q1, E1.o, E2.o, TT.o.trans q2⟩
              case measure => simp [intOf]; omega
            · have g4 : decide ((j : Int) < (l.length : Int)) = false := decide_eq_false (by omega)
              go_wp2
              go_roundw
              case rel =>
                obtain ⟨q1, q2⟩ := RR.o.set hk (show okw 0 from ⟨by omega, by omega⟩)
                exact ⟨j + 1, by omega, by go_num, _, q1, E1.o, E2.o, TT.o.trans q2⟩
              case measure => simp [intOf]; omega
          · have g3 : decide ((j : Int) < 16) = false := decide_eq_false (by omega)
            clear hj
            go_wp2
            go_ret
            exact ⟨_, R', rfl, RR.o, E1.o, E2.o, TT.o⟩
end Go.Proofs.YtkbhilhefnahpaaGreat.Rf
namespace Go.Proofs.YtkbhilhefnahpaaGreat.Rf
open Go Go.RowKit Go.Proofs.YtkbhilhefnahpaaGreat.ML Go.Proofs.YtkbhilhefnahpaaGreat.Mem Go.Proofs.YtkbhilhefnahpaaGreat.Vw Go.Proofs.YtkbhilhefnahpaaGreat.Print Go.Proofs.YtkbhilhefnahpaaGreatW.PrintWords Go.Proofs.YtkbhilhefnahpaaGreatW.PrintLast Go.Proofs.YtkbhilhefnahpaaGreatW.PrintMore
set_option linter.unusedVariables false
set_option linter.unusedSimpArgs false
theorem box_at {P : Program} {ops : Array Oper} {rest : List Oper} {o : Oper} {a : Act} {Q : Exit → Act → World → Prop} {W : World} (hgd : o.guard = none) {N : Tmp} (_hd : o.dst = some N) {cs : Array Value} {t : TypeId}
    (hr : (execOp a.eval o).run P W = .ok (.value (.pointer (some ⟨W.heap.size, 0, none⟩))) (W.alloc (.cells cs t (0, 0)))) (h : ∀ w1, w1.heap[W.heap.size]? = some (.cells cs t (0, 0)) → Below W.heap.size W w1 → wpList P ops Q rest (a.put o.dst (.pointer (some ⟨W.heap.size, 0, none⟩))) w1) : wpList P ops Q (o :: rest) a W :=
  Kd.event_run hgd hr (h _ (blk_new W _) (zl (Below.refl _ _) _))
set_option maxHeartbeats 2000000 in
set_option maxRecDepth 100000 in
theorem YJ {w0 w : World} (hb : Below w0.heap.size w0 w) {A : Option Addr} {c : Nat} {l : List Int} (hr : Kd.C (Kd.int .u64) w A 2824 l) (hl : l.length = 2824) (hw : ∀ v ∈ l, okw v) :
    Calls Tryz.prog 10 #[.slice A 2824 c] w fun e w' => ∃ (r : Rp) (R : RS), e = .returned (rptr r) ∧ IsRef w0 w' r R ∧ (∀ b ∈ r.list, w.heap.size ≤ b) ∧ Below w.heap.size w w' := by
  have HR := ze.mk hr
  have HW := ze.mk hw
  have HL := ze.mk hl
  have HB := ze.mk hb
  clear hr hw hl hb
  go_enter Tryz.func10, Tryz.ntmps10
  go_wp2_with (first
    | ((with_reducible refine yo (b := .append) (xs := #[.const (.slice none 0 0), .tmp 3]) rfl ?_); at_builtin; refine Kd.Zm (Kd.int .u64) (w0 := w) w.heap.size rfl (.const (.slice none 0 0)) (.tmp 3) 24 34 (.int .u64 0) 8 rfl Tryz.underlying24 YG rfl (by decide) (by omega) (.slice none 0 0) [] l A 2824 c (fun _ => True) (fun _ => False) rfl (by first | rfl | (go_simp; done)) (Kd.R_nil _ _ _ _ _) HR.o (fun _ _ h => h) (fun _ h => h.elim) (fun _ _ => trivial) (Below.refl _ _) (Nat.le_refl _) (by simp) ?_; intro v4 w4 ho4 hb4 hg4 hat4; clear hg4 hat4; obtain ⟨g4, q4, e4, row4, ge4⟩ := Row.of_R (e := 0) ho4 HL.o HW.o; subst e4; have R4 := ze.mk row4; have G4 := ze.mk ge4; have B4 := ze.mk hb4; clear ho4 hb4 row4 ge4)
    | ((with_reducible refine yo (b := .append) (xs := #[.const (.slice none 0 0), .tmp 5]) rfl ?_); at_builtin; refine Kd.Zm (Kd.int .u64) (w0 := w4) w4.heap.size rfl (.const (.slice none 0 0)) (.tmp 5) 24 34 (.int .u64 0) 8 rfl Tryz.underlying24 YG rfl (by decide) (by omega) (.slice none 0 0) [] l A 2824 c (fun _ => True) (fun _ => False) rfl (by first | rfl | (go_simp; done)) (Kd.R_nil _ _ _ _ _) (Kd.zZ HR.o B4.o) (fun _ _ h => h) (fun _ h => h.elim) (fun _ _ => trivial) (Below.refl _ _) (Nat.le_refl _) (by simp) ?_; intro v6 w6 ho6 hb6 hg6 hat6; clear hg6 hat6; obtain ⟨g6, q6, e6, row6, ge6⟩ := Row.of_R (e := 0) ho6 HL.o HW.o; subst e6; have R6 := ze.mk row6; have G6 := ze.mk ge6; have B6 := ze.mk hb6; clear ho6 hb6 row6 ge6)
    | ((with_reducible refine zD (N := 8) rfl ?_); refine box_at ?hg (N := 8) ?hd (cs := (yY ⟨w6.heap.size, g4, g6, q4, q6, none, 0, none, 0⟩ ⟨l, l, List.replicate 48 false, [], []⟩).toArray) (t := 73) ?hr ?_; (case hd => rfl); (case hg => rfl); (case hr => first | (go_simp; done) | (go_simp; rfl)); intro w8 hbox hb8; have X8 := ze.mk hbox; have B8 := ze.mk hb8; clear hb8 hbox))
  go_ret
  have l4 := R4.o.lt
  have l6 := R6.o.lt
  have s6 := B6.o.size
  have s4 := B4.o.size
  have gg4 := G4.o
  have gg6 := G6.o
  have hsz := HB.o.size
  refine ⟨⟨w6.heap.size, g4, g6, q4, q6, none, 0, none, 0⟩, ⟨l, l, List.replicate 48 false, [], []⟩, rfl, ⟨X8.o, rfl, (R4.o.block (B6.o.block _ l4)).block (B8.o.block _ (by omega)), R6.o.block (B8.o.block _ l6), ⟨rfl, by simp, fun h => absurd h (by simp)⟩, ⟨rfl, by simp, fun h => absurd h (by simp)⟩, ⟨by simp, by simp⟩, ⟨by simp, by simp⟩, ⟨by show w6.heap.size ≠ g4; omega, by show w6.heap.size ≠ g6; omega, by show g4 ≠ g6; omega⟩, ?_⟩, ?_, B4.o.trans ((B6.o.mono s4).trans (B8.o.mono (by omega)))⟩
  · intro b hb
    simp only [Rp.list, List.mem_cons, List.not_mem_nil, or_false] at hb
    rcases hb with rfl | rfl | rfl <;> omega
  · intro b hb
    simp only [Rp.list, List.mem_cons, List.not_mem_nil, or_false] at hb
    rcases hb with rfl | rfl | rfl <;> omega
end Go.Proofs.YtkbhilhefnahpaaGreat.Rf
namespace Go.Proofs.YtkbhilhefnahpaaGreat.Rf
open Go Go.RowKit Go.Proofs.YtkbhilhefnahpaaGreat.ML Go.Proofs.YtkbhilhefnahpaaGreat.Mem Go.Proofs.YtkbhilhefnahpaaGreat.Vw Go.Proofs.YtkbhilhefnahpaaGreat.Print Go.Proofs.YtkbhilhefnahpaaGreatW.PrintWords Go.Proofs.YtkbhilhefnahpaaGreatW.PrintLast Go.Proofs.YtkbhilhefnahpaaGreatW.PrintMore
set_option linter.unusedVariables false
set_option linter.unusedSimpArgs false
def RS.mark (R : RS) (i : Nat) : RS := { R with sm := R.sm.set i true }
theorem cellsR_mark (r : Rp) (R : RS) (i : Nat) (hi : i < R.sm.length) : (yY r R).set (2 + i) (.bool true) = yY r (R.mark i) := by
  unfold yY RS.mark
  rw [List.append_assoc, List.append_assoc, List.set_append_right _ _ (by simp), List.set_append_left _ _ (by simp; omega)]
  simp [← List.map_set]
theorem IsRef.mark {w0 w : World} {r : Rp} {R : RS} (h : IsRef w0 w r R) {i : Nat} (hi : i < 48) : IsRef w0 (w.setCell ⟨r.p, 2 + i, none⟩ (.bool true)) r (R.mark i) ∧ Turn [r.p] w (w.setCell ⟨r.p, 2 + i, none⟩ (.bool true)) := by
  have t := Turn.setCell w ⟨r.p, 2 + i, none⟩ (.bool true)
  refine ⟨⟨?_, by show (R.sm.set i true).length = 48; rw [List.length_set]; exact h.sm, h.base.block (t.block r.bb (h.lts _ (by simp [Rp.list])) (by simpa using fun e => h.ne.1 e.symm)), h.now.block (t.block r.bn (h.lts _ (by simp [Rp.list])) (by simpa using fun e => h.ne.2.1 e.symm)), h.a1, h.a2, h.h1, h.h2, h.ne, h.age⟩, t⟩
  rw [yu _ h.cells]
  congr 2
  apply Array.toList_inj.1
  rw [Array.toList_setIfInBounds]
  exact cellsR_mark r R i (by rw [h.sm]; exact hi)
theorem IsRef.note {w0 w : World} {r : Rp} {R : RS} (h : IsRef w0 w r R) {i : Nat} (hi : i < 48) : ∃ b, w.cell? ⟨r.p, 2 + i, none⟩ = some (.bool b) := by
  have hl : i < R.sm.length := by rw [h.sm]; exact hi
  refine ⟨R.sm[i], cell_of h.cells ?_⟩
  rw [List.getElem?_toArray]
  unfold yY
  rw [List.append_assoc, List.getElem?_append_right (by simp), List.getElem?_append_left (by simp; omega)]
  simp [hl]
theorem rRead_as {w : World} {A : Option Addr} {cap : Nat} {l : List Int} {k : Nat} {c : Crd} {e : Int} (n : Nat) (hn : l.length = n) (hr : Kd.C (Kd.int .u64) w A n l) (hc : n ≤ cap) (hf : escritoireref06_Read.f k l = some (c.k, c.l, c.s, c.v, c.d0, c.d1, c.d2, c.d3, c.d4, c.m, e)) :
    Calls Tryz.prog 53 #[.slice A n cap] w fun e' w' => e' = .returned (.tuple #[c.val, .int .i64 e]) ∧ Below w.heap.size w w' := by
  subst hn
  exact escritoireref06_Read.calls k A cap l _ _ _ _ _ _ _ _ _ _ _ w hr hc hf
theorem YA {w : World} {k : Nat} {c : Crd} {l : List Int} {e : Int} (hf : escritoireref06_Write.f k c.k c.l c.s c.v c.d0 c.d1 c.d2 c.d3 c.d4 c.m = some (l, e)) :
    Calls Tryz.prog 56 #[c.val] w fun e' w' => ∃ v0_ : Value, e' = .returned (.tuple #[v0_, .int .i64 e]) ∧ Kd.R (Kd.int .u64) 34 w' w.heap.size (fun _ => True) v0_ l ∧ Below w.heap.size w w' :=
  escritoireref06_Write.calls k c.k c.l c.s c.v c.d0 c.d1 c.d2 c.d3 c.d4 c.m l e w hf
set_option maxHeartbeats 2000000 in
set_option maxRecDepth 100000 in
theorem YU {w0 w : World} {r : Rp} {R : RS} (h : IsRef w0 w r R) (i : Int) (hi : oki i) : Calls Tryz.prog 25 #[rptr r, .int .i64 i] w fun e' w' => ∃ (c : Crd) (x : Int) (R' : RS), e' = .returned (.tuple #[c.val, .int .i64 x]) ∧ IsRef w0 w' r R' ∧ R'.l1 = R.l1 ∧ R'.l2 = R.l2 ∧ Turn [r.p] w w' := by
  have hu := Tryz.underlying37
  have HR := ze.mk h
  by_cases h0 : i < 0 ∨ 24 ≤ i
  · have g0 : (decide (i < 0) || decide ((24 : Int) ≤ i)) = true := by simpa using h0
    have out : ∀ (k0 k1 : Bool), decide (i < 0) = k0 → decide ((24 : Int) ≤ i) = k1 → (k0 || k1) = true → Calls Tryz.prog 25 #[rptr r, .int .i64 i] w fun e' w' => e' = .returned (.tuple #[Zo.val, .int .i64 1]) ∧ Below w.heap.size w w' := by
      intro k0 k1 d0 d1 hk
      clear h h0 g0 hi HR
      cases k0 <;> cases k1 <;> first
        | (exact absurd hk (by decide))
        | (go_enter Tryz.func25, Tryz.ntmps25
           go_wp2_with (first
             | ((with_reducible refine zD (N := 4) rfl ?_); refine zC ?hg (N := 4) ?hd (cs := Zo.cells.toArray) (t := 37) ?hr ?_; (case hd => rfl); (case hg => rfl); (case hr => first | (go_simp; done) | (go_simp; rfl)); intro g hg w1 hbox hb; have X1 := ze.mk hbox; have G1 := ze.mk hg; have B1 := ze.mk hb; clear hb hbox hg)
             | ((with_reducible refine zJ (t := 37) (p := 4) rfl ?_); obtain ⟨w6, hs, hb6, t6⟩ := ZA X1.o rfl Zo; refine zH (t := 37) (p := 4) (w1 := w6) rfl rfl rfl (zM rfl rfl rfl hs) ?_; intro w7 hw7; rw [← hw7] at hb6 t6; have X6 := ze.mk hb6; have B7 := ze.mk (show Below w.heap.size w w7 from B1.o.trans (t6.below B1.o.size (fun x hx => by have h2 := G1.o; simp at hx; omega))); clear hs hb6 t6 hw7))
           refine bodyPost_ret (yE rfl _ _ g 37 Zo.cells.toArray (0, 0) _ rfl X6.o hu rfl (by kernel_rfl)) rfl ?_
           exact ⟨rfl, B7.o⟩)
    refine (out _ _ rfl rfl g0).mono ?_
    rintro e w' ⟨rfl, hb⟩
    exact ⟨Zo, 1, R, rfl, HR.o.below hb, rfl, rfl, Turn.of_below hb _⟩
  · obtain ⟨n, rfl⟩ := Int.eq_ofNat_of_zero_le (show 0 ≤ i by omega)
    have hn : n < 24 := by omega
    have g0 : decide ((n : Int) < 0) = false := decide_eq_false (by omega)
    have g1 : decide ((24 : Int) ≤ (n : Int)) = false := decide_eq_false (by omega)
    have hcap : 2824 ≤ r.cn := by obtain ⟨_, _, h2, h3, _⟩ := h.now; omega
    have HC := ze.mk (h.now.readC (8 + 8 * n) 8 (by omega))
    have hl8 : ((R.now.drop (8 + 8 * n)).take 8).length = 8 := HC.o.1
    obtain ⟨cc, _, hcc⟩ := Cp.read_both ((R.now.drop (8 + 8 * n)).take 8) (fun x hx => okw_wf (by obtain ⟨_, _, _, _, _, hw⟩ := h.now; exact hw x (List.mem_of_mem_drop (List.mem_of_mem_take hx))))
    obtain ⟨k, hk⟩ := hcc.rounds
    obtain ⟨a0, a1, a2, a3, a4, a5, a6, a7, a8, a9, x⟩ := cc
    have HF := ze.mk hk
    have HL := ze.mk hl8
    clear h h0 hi hcc hk hl8
    obtain ⟨l, hl⟩ : ∃ l, (R.now.drop (8 + 8 * n)).take 8 = l := ⟨_, rfl⟩
    rw [hl] at HF HL
    have HE := ze.mk hl
    clear hl HC
    go_enter Tryz.func25, Tryz.ntmps25
    go_wp2_with (first
      | ((with_reducible refine zD (N := 4) rfl ?_); refine zC ?hg (N := 4) ?hd (cs := Zo.cells.toArray) (t := 37) ?hr ?_; (case hd => rfl); (case hg => rfl); (case hr => first | (go_simp; done) | (go_simp; rfl)); intro g hg w1 hbox hb; have R1 := ze.mk (HR.o.below hb); have X1 := ze.mk hbox; have G1 := ze.mk hg; have T1 := ze.mk (Turn.of_below hb [r.p]); have c1 := R1.o.facts.c1; have f1 := R1.o.facts.fz; obtain ⟨b1, s1⟩ := R1.o.note (i := n) (by omega); clear hb hbox hg)
      | ((with_reducible refine zJ (t := 4) (p := 17) rfl ?_); refine zH (t := 4) (p := 17) (v := .const (.bool true)) (w1 := w1.setCell ⟨r.p, 2 + n, none⟩ (.bool true)) ?hg ?ho ?hn ?hr ?_; (case ho => rfl); (case hg => rfl); (case hn => rfl); (case hr => first | (go_simp; done) | (go_simp; rfl)); intro w2 hw2; obtain ⟨q1, q2⟩ := R1.o.mark (i := n) (by omega); rw [← hw2] at q1 q2; have R2 := ze.mk q1; have T2 := ze.mk (T1.o.trans q2); have X2 := ze.mk ((q2.block g (Array.getElem?_eq_some_iff.1 X1.o).1 (by have h1 := HR.o.lts r.p (by simp [Rp.list]); have h2 := G1.o; simp; omega)).trans X1.o); have C2 := ze.mk (show Kd.C (Kd.int .u64) w2 (some ⟨r.bn, 8 + 8 * n, none⟩) 8 l from by have h_ := R2.o.now.readC (8 + 8 * n) 8 (by omega); rw [show (R.mark n).now = R.now from rfl, HE.o] at h_; exact h_); have c2 := R2.o.facts.c1; clear q1 q2 hw2 c1)
      | (go_at_call 53; refine (rRead_as (c := ⟨a0, a1, a2, a3, a4, a5, a6, a7, a8, a9⟩) (16 + 8 * n - (8 + 8 * n)) (by rw [HL.o]; omega) (by rw [show 16 + 8 * n - (8 + 8 * n) = 8 by omega]; exact C2.o) (by omega) HF.o).mono ?_; rintro e w5 ⟨rfl, hb⟩; have R5 := ze.mk (R2.o.below hb); have X5 := ze.mk (zK X2.o hb); have T5 := ze.mk (T2.o.trans (Turn.of_below hb _)); clear hb)
      | ((with_reducible refine zJ (t := 37) (p := 4) rfl ?_); obtain ⟨w6, hs, hb6, t6⟩ := ZA X5.o rfl ⟨a0, a1, a2, a3, a4, a5, a6, a7, a8, a9⟩; refine zH (t := 37) (p := 4) (w1 := w6) rfl rfl rfl (zM rfl rfl rfl hs) ?_; intro w7 hw7; rw [← hw7] at hb6 t6; have X6 := ze.mk hb6; have R6 := ze.mk (R5.o.kept t6 (fun b hb => by have h1 := HR.o.lts b hb; have h2 := G1.o; simp; omega)); have T6 := ze.mk (show Turn [r.p] w w7 from ((T5.o.mono (L' := [r.p, g]) (fun x hx => .inl (by simp at hx; simp [hx]))).trans (t6.mono (L' := [r.p, g]) (fun x hx => .inl (by simp at hx; simp [hx])))).mono (fun x hx => by have h2 := G1.o; simp at hx ⊢; omega)); clear hs hb6 t6 hw7))
    refine bodyPost_ret (yE rfl _ _ g 37 (Crd.cells ⟨a0, a1, a2, a3, a4, a5, a6, a7, a8, a9⟩).toArray (0, 0) _ rfl X6.o hu rfl (by kernel_rfl)) rfl ?_
    exact ⟨⟨a0, a1, a2, a3, a4, a5, a6, a7, a8, a9⟩, x, _, rfl, R6.o, rfl, rfl, T6.o⟩
end Go.Proofs.YtkbhilhefnahpaaGreat.Rf
namespace Go.Proofs.YtkbhilhefnahpaaGreat.Rf
open Go Go.RowKit Go.Proofs.YtkbhilhefnahpaaGreat.ML Go.Proofs.YtkbhilhefnahpaaGreat.Mem Go.Proofs.YtkbhilhefnahpaaGreat.Vw Go.Proofs.YtkbhilhefnahpaaGreat.Print Go.Proofs.YtkbhilhefnahpaaGreatW.PrintWords Go.Proofs.YtkbhilhefnahpaaGreatW.PrintLast Go.Proofs.YtkbhilhefnahpaaGreatW.PrintMore
set_option linter.unusedVariables false
set_option linter.unusedSimpArgs false
theorem R_kept {q : IntKind} {e : Nat} {w w' : World} {base : Nat} {ok : Nat → Prop} {v : Value} {l : List Int} {L : List Nat} (h : Kd.R (Kd.int q) e w base ok v l) (t : Turn L w w') (hL : ∀ b ∈ L, b < base) : Kd.R (Kd.int q) e w' base (fun _ => True) v l := by
  obtain ⟨h1, h2⟩ := row_of_R h
  refine R_of_row ⟨h1, ?_⟩
  rcases h2 with h2 | ⟨g, cap, cur, hv, hb, hh, h3, h4, h5, h6⟩
  · exact .inl h2
  · refine .inr ⟨g, cap, cur, hv, hb, ?_, h3, h4, h5, h6⟩
    exact (t.block g (Array.getElem?_eq_some_iff.1 hh).1 fun hm => by have := hL g hm; omega).trans hh
theorem Row.toR {w : World} {b cap : Nat} {l : List Int} (h : Row w b cap l) : Kd.R (Kd.int .u64) 34 w b (fun _ => True) (.slice (some ⟨b, 0, none⟩) 2824 cap) l := by
  obtain ⟨t, h, hl, hc, hm, hw⟩ := h
  refine R_of_row ⟨by simp, .inr ⟨b, cap, _, ?_, Nat.le_refl _, h, ?_, hm, ?_, ?_⟩⟩
  · rw [hl]
  · omega
  · simp; omega
  · simp
theorem Row.back {w : World} {b cap base : Nat} {ok : Nat → Prop} {l : List Int} (h : Kd.R (Kd.int .u64) 34 w base ok (.slice (some ⟨b, 0, none⟩) 2824 cap) l) (hl : l.length = 2824) (hw : ∀ x ∈ l, okw x) : Row w b cap l := by
  obtain ⟨g, c, hv, hr, _⟩ := Row.of_R (e := 0) h hl hw
  injection hv with e1 _ e3
  injection e1 with e1
  injection e1 with e1
  subst e1 e3
  exact hr
theorem IsRef.row {w0 w w' : World} {r : Rp} {R : RS} (h : IsRef w0 w r R) (t : Turn [r.bn] w w') {l : List Int} (hr : Row w' r.bn r.cn l) : IsRef w0 w' r { R with now := l } :=
  ⟨(t.block r.p (h.lts _ (by simp [Rp.list])) (by simpa using h.ne.2.1)).trans h.cells, h.sm, h.base.block (t.block r.bb (h.lts _ (by simp [Rp.list])) (by simpa using h.ne.2.2)), hr, h.a1, h.a2, h.h1, h.h2, h.ne, h.age⟩
theorem cpy_len (xs : List Int) (k : Nat) (ys : List Int) (h : k + ys.length ≤ xs.length) : (cpy xs k ys).length = xs.length := by
  unfold cpy
  simp
  omega
theorem cpy_ok (xs : List Int) (k : Nat) (ys : List Int) (hx : ∀ v ∈ xs, okw v) (hy : ∀ v ∈ ys, okw v) : ∀ v ∈ cpy xs k ys, okw v := by
  intro v hv
  unfold cpy at hv
  simp only [List.mem_append] at hv
  rcases hv with hv | hv | hv
  · exact hx v (List.mem_of_mem_take hv)
  · exact hy v (List.mem_of_mem_take hv)
  · exact hx v (List.mem_of_mem_drop hv)
set_option maxHeartbeats 4000000 in
set_option maxRecDepth 100000 in
theorem Set_calls {w0 w : World} {r : Rp} {R : RS} (h : IsRef w0 w r R) (i : Int) (hi : oki i) (c : Crd) (hc : okw c.v) : Calls Tryz.prog 27 #[rptr r, .int .i64 i, c.val] w fun e' w' => ∃ (x : Int) (R' : RS), e' = .returned (.int .i64 x) ∧ IsRef w0 w' r R' ∧ R'.l1 = R.l1 ∧ R'.l2 = R.l2 ∧ Turn [r.p, r.bn] w w' := by
  obtain ⟨l, e, _, he, h8, hw, hle⟩ := Cp.write_both c.k c.l c.s c.v c.d0 c.d1 c.d2 c.d3 c.d4 c.m hc
  obtain ⟨k, hk⟩ := he.rounds
  have HF := ze.mk hk
  have HR := ze.mk h
  have H8 := ze.mk h8
  have HW := ze.mk hw
  have hu := Tryz.underlying37
  by_cases h0 : (0 ≤ i ∧ i < 24) ∧ e = 0
  · obtain ⟨⟨h0, h1⟩, rfl⟩ := h0
    obtain ⟨n, rfl⟩ := Int.eq_ofNat_of_zero_le h0
    have hn : n < 24 := by omega
    have g0 : decide ((n : Int) < 0) = false := decide_eq_false (by omega)
    have g1 : decide ((24 : Int) ≤ (n : Int)) = false := decide_eq_false (by omega)
    have hcap : 2824 ≤ r.cn := by obtain ⟨_, _, h2, h3, _⟩ := h.now; omega
    have hl8 : l.length = 8 := h8 rfl
    have HL := ze.mk hl8
    clear h h0 h1 hi he hk h8 hw hle hl8
    go_enter Tryz.func27, Tryz.ntmps27
    go_wp2_with (first
      | ((with_reducible refine zD (N := 5) rfl ?_); refine zC ?hg (N := 5) ?hd (cs := c.cells.toArray) (t := 37) ?hr ?_; (case hd => rfl); (case hg => rfl); (case hr => first | (go_simp; done) | (go_simp; rfl)); intro g hg w1 hbox hb; have X1 := ze.mk hbox; have R1 := ze.mk (HR.o.below hb); have B1 := ze.mk hb; clear hb hbox hg; have x0 := cell_of X1.o (o := 0) rfl; have x1 := cell_of X1.o (o := 1) rfl; have x2 := cell_of X1.o (o := 2) rfl; have x3 := cell_of X1.o (o := 3) rfl; have x4 := cell_of X1.o (o := 4) rfl; have x5 := cell_of X1.o (o := 5) rfl; have x6 := cell_of X1.o (o := 6) rfl; have x7 := cell_of X1.o (o := 7) rfl; have x8 := cell_of X1.o (o := 8) rfl; have x9 := cell_of X1.o (o := 9) rfl)
      | (go_at_call 56; refine (YA HF.o).mono ?_; rintro e w2 ⟨v0, rfl, hO, hb⟩; obtain ⟨A, cap, hv⟩ := Kd.yc hO; rw [HL.o] at hv; subst hv; have O2 := ze.mk hO; have R2 := ze.mk (R1.o.below hb); have T2 := ze.mk (Turn.of_below (B1.o.trans (hb.mono B1.o.size)) [r.p, r.bn]); have LT := ze.mk (show r.p < w1.heap.size from R1.o.lts _ (by simp [Rp.list])); have c2 := R2.o.facts.c1; have f2 := R2.o.facts.fz; obtain ⟨b2, s2⟩ := R2.o.note (i := n) (by omega); clear hb hO)
      | ((with_reducible refine zJ (t := 4) (p := 28) rfl ?_); refine zH (t := 4) (p := 28) (v := .const (.bool true)) (w1 := w2.setCell ⟨r.p, 2 + n, none⟩ (.bool true)) ?hg ?ho ?hn ?hr ?_; (case ho => rfl); (case hg => rfl); (case hn => rfl); (case hr => first | (go_simp; done) | (go_simp; rfl)); intro w3 hw3; obtain ⟨q1, q2⟩ := R2.o.mark (i := n) (by omega); rw [← hw3] at q1 q2; have R3 := ze.mk q1; have T3 := ze.mk (T2.o.trans (q2.mono (L' := [r.p, r.bn]) (fun x hx => .inl (by simp at hx; simp [hx])))); have O3 := ze.mk (R_kept O2.o q2 (fun b hb => by simp at hb; subst hb; exact LT.o)); have f3 := R3.o.facts.fz; have c3 := R3.o.facts.c1; obtain ⟨b3, s3⟩ : ∃ b, w3.cell? ⟨r.p, 26 + n, none⟩ = some (.bool b) := (by { have h_ := R3.o.note (i := 24 + n) (by omega); rwa [show 2 + (24 + n) = 26 + n by omega] at h_ }); clear q1 q2 hw3)
      | ((with_reducible refine zJ (t := 4) (p := 33) rfl ?_); refine zH (t := 4) (p := 33) (v := .const (.bool true)) (w1 := w3.setCell ⟨r.p, 26 + n, none⟩ (.bool true)) ?hg ?ho ?hn ?hr ?_; (case ho => rfl); (case hg => rfl); (case hn => rfl); (case hr => first | (go_simp; done) | (go_simp; rfl)); intro w4 hw4; obtain ⟨q1, q2⟩ := R3.o.mark (i := 24 + n) (by omega); rw [show 2 + (24 + n) = 26 + n by omega, ← hw4] at q1 q2; have R4 := ze.mk q1; have T4 := ze.mk (T3.o.trans (q2.mono (L' := [r.p, r.bn]) (fun x hx => .inl (by simp at hx; simp [hx])))); have O4 := ze.mk (R_kept O3.o q2 (fun b hb => by simp at hb; subst hb; exact LT.o)); have c4 := R4.o.facts.c1; have C4 := ze.mk (show Kd.C (Kd.int .u64) w4 A 8 l from by have h_ := (YP O4.o).1; rw [HL.o] at h_; exact h_); clear q1 q2 hw4 c2)
      | ((with_reducible refine yo (b := .copy) (xs := #[.tmp 41, .tmp 42]) rfl ?_); refine kd_copy_at (enc := Value.int .u64) (h1 := fun _ => rfl) (w0 := w4) r.bn rfl (.tmp 41) (.tmp 42) 24 24 34 rfl Tryz.underlying24 (by kernel_rfl) (.slice (some ⟨r.bn, 0, none⟩) 2824 r.cn) R.now l A (some ⟨r.bn, 0, none⟩) (some ⟨r.bn, 8 + 8 * n, none⟩) 8 cap 2824 r.cn (2824 - (8 + 8 * n)) (r.cn - (8 + 8 * n)) (8 + 8 * n) (fun _ => True) (by first | rfl | (go_simp; done)) rfl rfl ?cA ?cN ?cK ?cO C4.o (Below.refl _ _) (Nat.le_of_lt R4.o.now.lt) ?_;
          (case cA => rw [if_neg (by omega)]; simp [Addr.add]);
          (case cN => have h_ : R.now.length = 2824 := by { obtain ⟨_, _, h2, _⟩ := R4.o.now; exact h2 }; rw [h_]);
          (case cK => have h_ : R.now.length = 2824 := by { obtain ⟨_, _, h2, _⟩ := R4.o.now; exact h2 }; omega);
          (case cO => exact R4.o.now.toR);
          intro w5 hR5 hb5 hg5;
          have T5 := ze.mk (T4.o.trans ((Turn.Zt hg5).mono (L' := [r.p, r.bn]) (fun x hx => .inl (by simp [Value.ownBlock] at hx; simp [hx]))));
          have R5 := ze.mk (R4.o.row (Turn.Zt hg5) (Row.back hR5 (by { have h_ : R.now.length = 2824 := by { obtain ⟨_, _, h2, _⟩ := R4.o.now; exact h2 }; rw [cpy_len _ _ _ (by rw [HL.o, h_]; omega)]; exact h_ }) (cpy_ok _ _ _ (by obtain ⟨_, _, _, _, _, h_⟩ := R4.o.now; exact h_) (fun v hv => HW.o v hv))));
          clear hR5 hb5 hg5))
    go_ret
    exact ⟨0, _, rfl, R5.o, rfl, rfl, T5.o⟩
  · have fin : ∀ w', Below w.heap.size w w' → ∃ (x : Int) (R' : RS), Ending.returned (.int .i64 1) = .returned (.int .i64 x) ∧ IsRef w0 w' r R' ∧ R'.l1 = R.l1 ∧ R'.l2 = R.l2 ∧ Turn [r.p, r.bn] w w' := fun w' hb => ⟨1, R, rfl, HR.o.below hb, rfl, rfl, Turn.of_below hb _⟩
    have FIN := ze.mk fin
    clear fin
    by_cases i0 : i < 0
    · have g0 : decide (i < 0) = true := decide_eq_true i0
      clear h h0 hi he hk h8 hw hle i0
      go_enter Tryz.func27, Tryz.ntmps27
      go_wp2_with (first
        | ((with_reducible refine zD (N := 5) rfl ?_); refine zC ?hg (N := 5) ?hd (cs := c.cells.toArray) (t := 37) ?hr ?_; (case hd => rfl); (case hg => rfl); (case hr => first | (go_simp; done) | (go_simp; rfl)); intro g hg w1 hbox hb; have X1 := ze.mk hbox; have B1 := ze.mk hb; clear hb hbox hg; have x0 := cell_of X1.o (o := 0) rfl; have x1 := cell_of X1.o (o := 1) rfl; have x2 := cell_of X1.o (o := 2) rfl; have x3 := cell_of X1.o (o := 3) rfl; have x4 := cell_of X1.o (o := 4) rfl; have x5 := cell_of X1.o (o := 5) rfl; have x6 := cell_of X1.o (o := 6) rfl; have x7 := cell_of X1.o (o := 7) rfl; have x8 := cell_of X1.o (o := 8) rfl; have x9 := cell_of X1.o (o := 9) rfl)
        | (go_at_call 56; refine (YA HF.o).mono ?_; rintro e w2 ⟨v0, rfl, hO, hb⟩; have B2 := ze.mk (B1.o.trans (hb.mono B1.o.size)); clear hb hO))
      go_ret
      exact FIN.o _ B2.o
    · have g0 : decide (i < 0) = false := decide_eq_false i0
      by_cases i1 : 24 ≤ i
      · have g1 : decide ((24 : Int) ≤ i) = true := decide_eq_true i1
        clear h h0 hi he hk h8 hw hle i0 i1
        go_enter Tryz.func27, Tryz.ntmps27
        go_wp2_with (first
          | ((with_reducible refine zD (N := 5) rfl ?_); refine zC ?hg (N := 5) ?hd (cs := c.cells.toArray) (t := 37) ?hr ?_; (case hd => rfl); (case hg => rfl); (case hr => first | (go_simp; done) | (go_simp; rfl)); intro g hg w1 hbox hb; have X1 := ze.mk hbox; have B1 := ze.mk hb; clear hb hbox hg; have x0 := cell_of X1.o (o := 0) rfl; have x1 := cell_of X1.o (o := 1) rfl; have x2 := cell_of X1.o (o := 2) rfl; have x3 := cell_of X1.o (o := 3) rfl; have x4 := cell_of X1.o (o := 4) rfl; have x5 := cell_of X1.o (o := 5) rfl; have x6 := cell_of X1.o (o := 6) rfl; have x7 := cell_of X1.o (o := 7) rfl; have x8 := cell_of X1.o (o := 8) rfl; have x9 := cell_of X1.o (o := 9) rfl)
          | (go_at_call 56; refine (YA HF.o).mono ?_; rintro e w2 ⟨v0, rfl, hO, hb⟩; have B2 := ze.mk (B1.o.trans (hb.mono B1.o.size)); clear hb hO))
        go_ret
        exact FIN.o _ B2.o
      · have g1 : decide ((24 : Int) ≤ i) = false := decide_eq_false i1
        have he0 : e ≠ 0 := fun hx => h0 ⟨by omega, hx⟩
        have ge : (e = 0) = False := eq_false he0
        have ge2 : (e != 0) = true := by simpa using he0
        clear h h0 hi he hk h8 hw hle i0 i1 he0
        go_enter Tryz.func27, Tryz.ntmps27
        go_wp2_with (first
          | ((with_reducible refine zD (N := 5) rfl ?_); refine zC ?hg (N := 5) ?hd (cs := c.cells.toArray) (t := 37) ?hr ?_; (case hd => rfl); (case hg => rfl); (case hr => first | (go_simp; done) | (go_simp; rfl)); intro g hg w1 hbox hb; have X1 := ze.mk hbox; have B1 := ze.mk hb; clear hb hbox hg; have x0 := cell_of X1.o (o := 0) rfl; have x1 := cell_of X1.o (o := 1) rfl; have x2 := cell_of X1.o (o := 2) rfl; have x3 := cell_of X1.o (o := 3) rfl; have x4 := cell_of X1.o (o := 4) rfl; have x5 := cell_of X1.o (o := 5) rfl; have x6 := cell_of X1.o (o := 6) rfl; have x7 := cell_of X1.o (o := 7) rfl; have x8 := cell_of X1.o (o := 8) rfl; have x9 := cell_of X1.o (o := 9) rfl)
          | (go_at_call 56; refine (YA HF.o).mono ?_; rintro e w2 ⟨v0, rfl, hO, hb⟩; have B2 := ze.mk (B1.o.trans (hb.mono B1.o.size)); clear hb hO))
        go_ret
        exact FIN.o _ B2.o
/-! ### Reset -/
def RS.wipe (R : RS) (o : Nat) : RS := { R with sm := R.sm.take o ++ List.replicate 24 false ++ R.sm.drop (o + 24) }
theorem cellsR_wipe (r : Rp) (R : RS) (o : Nat) (ho : o = 0 ∨ o = 24) (hs : R.sm.length = 48) : (yY r R).take (2 + o) ++ List.replicate 24 (Value.bool false) ++ (yY r R).drop (2 + o + 24) = yY r (R.wipe o) := by
  rcases ho with rfl | rfl <;> simp [yY, RS.wipe, List.take_append, List.drop_append, hs, List.map_take, List.map_drop]
abbrev arrV : Value := .agg (Array.replicate 24 (.bool false))
set_option maxRecDepth 100000 in
theorem store_arr {w0 W : World} {r : Rp} {R : RS} (h : IsRef w0 W r R) (o : Nat) (ho : o = 0 ∨ o = 24) :
    ∃ W', (Instr.storeAt 71 (.pointer (some ⟨r.p, 2 + o, none⟩)) arrV).run Tryz.prog W = .ok () W' ∧ IsRef w0 W' r (R.wipe o) ∧ Turn [r.p] W W' := by
  have hlen : (yY r R).length = 52 := by simp [yY, h.sm]
  have hsz : (yY r R).toArray.size = 52 := by simpa using hlen
  have t : Turn [r.p] W (W.setCells r.p (2 + o) (List.replicate 24 (.bool false))) := by
    obtain ⟨h1, h2, h3, h4⟩ := yN r.p (List.replicate 24 (.bool false)) (2 + o) W
    exact ⟨h1, h2, h3, by rw [h4]; exact Nat.le_refl _, fun k hk hn => yJ _ _ _ (by simpa using hn)⟩
  refine ⟨_, zP (P := Tryz.prog) (o := 2 + o) (cur := (yY r R).toArray) 71 arrV (List.replicate 24 (.bool false)) h.cells rfl (by kernel_rfl) (by rw [hsz]; simp; omega) (fun q hq => by rw [List.eq_of_mem_replicate hq]; rfl), ?_, t⟩
  obtain ⟨cur', h1, h2, h3⟩ := yV (List.replicate 24 (.bool false)) (2 + o) W (yY r R).toArray h.cells (by rw [hsz]; simp; omega)
  have e : cur' = (yY r (R.wipe o)).toArray := by
    apply Array.ext'
    rw [h3, ← cellsR_wipe r R o ho h.sm]
    simp
  rw [e] at h1
  refine ⟨h1, ?_, h.base.block (t.block r.bb (h.lts _ (by simp [Rp.list])) (by simpa using fun e => h.ne.1 e.symm)), h.now.block (t.block r.bn (h.lts _ (by simp [Rp.list])) (by simpa using fun e => h.ne.2.1 e.symm)), h.a1, h.a2, h.h1, h.h2, h.ne, h.age⟩
  have := h.sm
  simp [RS.wipe]
  omega
theorem IsRef.setNow {w0 w : World} {r : Rp} {R : RS} (h : IsRef w0 w r R) {g c : Nat} {l : List Int} (hg : Row w g c l) (n1 : r.p ≠ g) (n2 : r.bb ≠ g) (ha : w0.heap.size ≤ g) : IsRef w0 (w.setCell ⟨r.p, 1, none⟩ (.slice (some ⟨g, 0, none⟩) 2824 c)) { r with bn := g, cn := c } { R with now := l } ∧ Turn [r.p] w (w.setCell ⟨r.p, 1, none⟩ (.slice (some ⟨g, 0, none⟩) 2824 c)) := by
  have t := Turn.setCell w ⟨r.p, 1, none⟩ (.slice (some ⟨g, 0, none⟩) 2824 c)
  refine ⟨⟨?_, h.sm, h.base.block (t.block r.bb (h.lts _ (by simp [Rp.list])) (by simpa using fun e => h.ne.1 e.symm)), hg.block (t.block g hg.lt (by simpa using fun e => n1 e.symm)), h.a1, h.a2, h.h1, h.h2, ⟨h.ne.1, n1, n2⟩, ?_⟩, t⟩
  · rw [yu _ h.cells]
    rfl
  · intro b hb
    simp only [Rp.list, List.mem_cons, List.not_mem_nil, or_false] at hb
    rcases hb with rfl | rfl | rfl
    · exact h.age _ (by simp [Rp.list])
    · exact h.age _ (by simp [Rp.list])
    · exact ha
set_option maxHeartbeats 4000000 in
set_option maxRecDepth 100000 in
theorem Yl {w0 w : World} {r : Rp} {R : RS} (h : IsRef w0 w r R) (hb : Below w0.heap.size w0 w) : Calls Tryz.prog 39 #[rptr r] w fun e w' => e = .returned (.tuple #[]) ∧ ∃ (r' : Rp) (R' : RS), r'.p = r.p ∧ IsRef w0 w' r' R' ∧ (∀ b ∈ r'.list, b ∈ r.list ∨ w.heap.size ≤ b) ∧ Turn [r.p] w w' := by
  have HR := ze.mk h
  have HB := ze.mk hb
  have c0 := h.facts.c0
  have hcap : 2824 ≤ r.cb := by obtain ⟨_, _, h2, h3, _⟩ := h.base; omega
  have hl : R.base.length = 2824 := by obtain ⟨_, _, h2, h3, _⟩ := h.base; exact h2
  have HL := ze.mk hl
  have HC := ze.mk (show Kd.C (Kd.int .u64) w (some ⟨r.bb, 0, none⟩) 2824 R.base from by have h_ := h.base.readC 0 2824 (by omega); rw [List.drop_zero, List.take_of_length_le (by omega)] at h_; exact h_)
  have HW := ze.mk (show ∀ v ∈ R.base, okw v from by obtain ⟨_, _, _, _, _, h_⟩ := h.base; exact h_)
  clear h hb hl
  go_enter Tryz.func39, Tryz.ntmps39
  go_wp2_with (first
    | ((with_reducible refine yo (b := .append) (xs := #[.const (.slice none 0 0), .tmp 6]) rfl ?_); at_builtin; refine Kd.Zm (Kd.int .u64) (w0 := w) w.heap.size rfl (.const (.slice none 0 0)) (.tmp 6) 24 34 (.int .u64 0) 8 rfl Tryz.underlying24 YG rfl (by decide) (by omega) (.slice none 0 0) [] R.base (some ⟨r.bb, 0, none⟩) 2824 r.cb (fun _ => True) (fun _ => False) rfl (by first | rfl | (go_simp; done)) (Kd.R_nil _ _ _ _ _) HC.o (fun _ _ h => h) (fun _ h => h.elim) (fun _ _ => trivial) (Below.refl _ _) (Nat.le_refl _) (by simp) ?_; intro v4 w4 ho4 hb4 hg4 hat4; clear hg4 hat4; obtain ⟨g4, q4, e4, row4, ge4⟩ := Row.of_R (e := 0) ho4 HL.o HW.o; subst e4; have W4 := ze.mk row4; have G4 := ze.mk ge4; have R4 := ze.mk (HR.o.below hb4); have T4 := ze.mk (Turn.of_below hb4 [r.p]); have f4 := R4.o.facts.fz; have c4 := R4.o.facts.c1; clear ho4 hb4 row4 ge4)
    | ((with_reducible refine zJ (t := 24) (p := 9) rfl ?_); refine zH (t := 24) (p := 9) (v := .tmp 7) (w1 := w4.setCell ⟨r.p, 1, none⟩ (.slice (some ⟨g4, 0, none⟩) 2824 q4)) ?hg ?ho ?hn ?hr ?_; (case ho => rfl); (case hg => rfl); (case hn => rfl); (case hr => first | (go_simp; done) | (go_simp; rfl)); intro w5 hw5; obtain ⟨q1, q2⟩ := R4.o.setNow W4.o (by have h1 := HR.o.lts r.p (by simp [Rp.list]); have h2 := G4.o; omega) (by have h1 := HR.o.lts r.bb (by simp [Rp.list]); have h2 := G4.o; omega) (Nat.le_trans HB.o.size G4.o); rw [← hw5] at q1 q2; have R5 := ze.mk q1; have T5 := ze.mk (T4.o.trans q2); clear q1 q2 hw5)
    | ((with_reducible refine zJ (t := 71) (p := 13) rfl ?_); obtain ⟨w6, hs, q1, q2⟩ := store_arr R5.o 0 (.inl rfl); refine zH (t := 71) (p := 13) (w1 := w6) rfl rfl rfl (zM rfl rfl rfl hs) ?_; intro w7 hw7; rw [← hw7] at q1 q2; have R6 := ze.mk q1; have T6 := ze.mk (T5.o.trans q2); clear hs q1 q2 hw7)
    | ((with_reducible refine zJ (t := 71) (p := 17) rfl ?_); obtain ⟨w8, hs, q1, q2⟩ := store_arr R6.o 24 (.inr rfl); refine zH (t := 71) (p := 17) (w1 := w8) rfl rfl rfl (zM rfl rfl rfl hs) ?_; intro w9 hw9; rw [← hw9] at q1 q2; have R7 := ze.mk q1; have T7 := ze.mk (T6.o.trans q2); clear hs q1 q2 hw9))
  go_returns
  refine ⟨rfl, { r with bn := g4, cn := q4 }, _, rfl, R7.o, fun b hb => ?_, T7.o⟩
  simp only [Rp.list, List.mem_cons, List.not_mem_nil, or_false] at hb
  rcases hb with rfl | rfl | rfl
  · exact .inl (by simp [Rp.list])
  · exact .inl (by simp [Rp.list])
  · exact .inr G4.o
end Go.Proofs.YtkbhilhefnahpaaGreat.Rf
namespace Go.Proofs.YtkbhilhefnahpaaGreat.Rf
open Go Go.RowKit Go.Proofs.YtkbhilhefnahpaaGreat.ML Go.Proofs.YtkbhilhefnahpaaGreat.Mem Go.Proofs.YtkbhilhefnahpaaGreat.Vw Go.Proofs.YtkbhilhefnahpaaGreat.Print Go.Proofs.YtkbhilhefnahpaaGreatW.PrintWords Go.Proofs.YtkbhilhefnahpaaGreatW.PrintLast Go.Proofs.YtkbhilhefnahpaaGreatW.PrintMore
set_option linter.unusedVariables false
set_option linter.unusedSimpArgs false
structure Trio (w0 w : World) (q : Vp) (f : Fp) (r : Rp) (V : VS) (S : MS) (R : RS) : Prop where
  below : Below w0.heap.size w0 w
  view : zR w q f V
  mem : IsMem w f S
  ref : IsRef w0 w r R
  qage : ∀ b ∈ q.list, w0.heap.size ≤ b
  fq : ∀ b ∈ f.list, b ∉ q.list
  fr : ∀ b ∈ f.list, b ∉ r.list
  qr : ∀ b ∈ q.list, b ∉ r.list
theorem _root_.Go.Proofs.YtkbhilhefnahpaaGreat.Mem.Turn.comp {L L' : List Nat} {a b c : World} (h : Turn L a b) (k : Turn L' b c) (hL : ∀ x ∈ L', x ∈ L ∨ a.heap.size ≤ x) : Turn L a c :=
  ⟨k.os.trans h.os, k.tape.trans h.tape, k.output.trans h.output, Nat.le_trans h.size k.size, fun i hi hn => (k.block i (Nat.lt_of_lt_of_le hi h.size) (fun hm => (hL i hm).elim hn (by omega))).trans (h.block i hi hn)⟩
/-- What was done since a world. -/
structure Acc (w0 w w1 : World) (q : Vp) (f : Fp) (r : Rp) (V : VS) (S : MS) (q1 : Vp) (r1 : Rp) (V1 : VS) (R1 : RS) : Prop where
  trio : Trio w0 w1 q1 f r1 V1 S R1
  turn : Turn (q.list ++ r.list) w w1
  qs : ∀ b ∈ q1.list, b ∈ q.list ∨ w.heap.size ≤ b
  rs : ∀ b ∈ r1.list, b ∈ r.list ∨ w.heap.size ≤ b
  opn : Opn V → Opn V1
  qp : q1.p = q.p
  rp : r1.p = r.p
theorem Trio.acc {w0 w : World} {q : Vp} {f : Fp} {r : Rp} {V : VS} {S : MS} {R : RS} (h : Trio w0 w q f r V S R) : Acc w0 w w q f r V S q r V R :=
  ⟨h, Turn.refl _ _, fun _ hb => .inl hb, fun _ hb => .inl hb, id, rfl, rfl⟩
theorem Trio.step {w0 w w' : World} {q : Vp} {f : Fp} {r : Rp} {V : VS} {S : MS} {R : RS} (h : Trio w0 w q f r V S R) (hb : Below w.heap.size w w') : Trio w0 w' q f r V S R :=
  ⟨h.below.trans (hb.mono h.below.size), h.view.below hb, h.mem.below hb, h.ref.below hb, h.qage, h.fq, h.fr, h.qr⟩
section
variable {w0 w w1 w2 : World} {q q1 q2 : Vp} {f : Fp} {r r1 r2 : Rp} {V V1 V2 : VS} {S : MS} {R1 R2 : RS}
theorem Acc.step (h : Acc w0 w w1 q f r V S q1 r1 V1 R1) (hb : Below w1.heap.size w1 w2) : Acc w0 w w2 q f r V S q1 r1 V1 R1 :=
  ⟨h.trio.step hb, h.turn.trans (Turn.of_below hb _), h.qs, h.rs, h.opn, h.qp, h.rp⟩
theorem Acc.view (h : Acc w0 w w1 q f r V S q1 r1 V1 R1) (hv : zR w2 q2 f V2) (t : Turn q1.list w1 w2) (hq : ∀ b ∈ q2.list, b ∈ q1.list ∨ w1.heap.size ≤ b) (ho : Opn V1 → Opn V2) (hp : q2.p = q1.p) : Acc w0 w w2 q f r V S q2 r1 V2 R1 := by
  have sz := h.turn.size
  have hf := h.trio.mem.lts
  have hr := h.trio.ref.lts
  refine ⟨⟨?_, hv, h.trio.mem.kept t h.trio.fq, h.trio.ref.kept t fun b hb hq => h.trio.qr b hq hb, ?_, ?_, h.trio.fr, ?_⟩, ?_, ?_, h.rs, fun o => ho (h.opn o), hp.trans h.qp, h.rp⟩
  · exact h.trio.below.trans (t.below h.trio.below.size h.trio.qage)
  · intro b hb
    rcases hq b hb with hb | hb
    · exact h.trio.qage b hb
    · exact Nat.le_trans h.trio.below.size hb
  · intro b hb hm
    rcases hq b hm with hm | hm
    · exact h.trio.fq b hb hm
    · have := hf b hb; omega
  · intro b hb hm
    rcases hq b hb with hb | hb
    · exact h.trio.qr b hb hm
    · have := hr b hm; omega
  · exact h.turn.comp t fun b hb => (h.qs b hb).imp (fun hb => List.mem_append_left _ hb) id
  · intro b hb
    rcases hq b hb with hb | hb
    · exact h.qs b hb
    · exact .inr (Nat.le_trans sz hb)
theorem Acc.refs (h : Acc w0 w w1 q f r V S q1 r1 V1 R1) (hv : IsRef w0 w2 r2 R2) (t : Turn r1.list w1 w2) (hq : ∀ b ∈ r2.list, b ∈ r1.list ∨ w1.heap.size ≤ b) (hp : r2.p = r1.p) : Acc w0 w w2 q f r V S q1 r2 V1 R2 := by
  have sz := h.turn.size
  have hf := h.trio.mem.lts
  have hr := h.trio.view.lts
  refine ⟨⟨?_, h.trio.view.kept t h.trio.qr, h.trio.mem.kept t h.trio.fr, hv, h.trio.qage, h.trio.fq, ?_, ?_⟩, ?_, h.qs, ?_, h.opn, h.qp, hp.trans h.rp⟩
  · exact h.trio.below.trans (t.below h.trio.below.size h.trio.ref.age)
  · intro b hb hm
    rcases hq b hm with hm | hm
    · exact h.trio.fr b hb hm
    · have := hf b hb; omega
  · intro b hb hm
    rcases hq b hm with hm | hm
    · exact h.trio.qr b hb hm
    · have := hr b hb; omega
  · exact h.turn.comp t fun b hb => (h.rs b hb).imp (fun hb => List.mem_append_right _ hb) id
  · intro b hb
    rcases hq b hb with hb | hb
    · exact h.rs b hb
    · exact .inr (Nat.le_trans sz hb)
theorem Acc.before {wb : World} (h : Acc w0 w w1 q f r V S q1 r1 V1 R1) (hb : Below wb.heap.size wb w) : Acc w0 wb w1 q f r V S q1 r1 V1 R1 :=
  ⟨h.trio, (Turn.of_below hb _).trans h.turn, fun b m => (h.qs b m).imp id (Nat.le_trans hb.size), fun b m => (h.rs b m).imp id (Nat.le_trans hb.size), h.opn, h.qp, h.rp⟩
theorem Acc.trans {wb : World} {qb : Vp} {rb : Rp} {Vb : VS} {R : RS} (h : Acc w0 wb w qb f rb Vb S q r V R) (k : Acc w0 w w1 q f r V S q1 r1 V1 R1) : Acc w0 wb w1 qb f rb Vb S q1 r1 V1 R1 := by
  refine ⟨k.trio, h.turn.comp k.turn ?_, ?_, ?_, fun o => k.opn (h.opn o), k.qp.trans h.qp, k.rp.trans h.rp⟩
  · intro b hb
    rcases List.mem_append.1 hb with hb | hb
    · exact (h.qs b hb).imp (fun hb => List.mem_append_left _ hb) id
    · exact (h.rs b hb).imp (fun hb => List.mem_append_right _ hb) id
  · intro b hb
    rcases k.qs b hb with hb | hb
    · exact h.qs b hb
    · exact .inr (Nat.le_trans h.turn.size hb)
  · intro b hb
    rcases k.rs b hb with hb | hb
    · exact h.rs b hb
    · exact .inr (Nat.le_trans h.turn.size hb)
theorem now_ok {c : Cell} (h : c.ok) : okw c.now := by
  unfold Cell.now
  cases hl : c.loose with
  | none => simpa [hl] using h.1
  | some v => simpa [hl] using h.2.1 v hl
theorem sread_ok {S : MS} (h : S.Ok) (i : Int) : okw (S.read i) := by
  unfold MS.read
  split
  · exact now_ok (h.at i)
  · exact ⟨by decide, by decide⟩
theorem vread_ok {V : VS} {S : MS} (h : V.Ok) (hs : S.Ok) (i : Int) : okw (V.read S i) := by
  unfold VS.read
  cases hg : get V.own i with
  | none => exact sread_ok hs i
  | some v => exact (h.own _ (yK hg)).2.2
theorem vRead_acc (h : Acc w0 w w1 q f r V S q1 r1 V1 R1) (i : Int) (hi : oki i) : Calls Tryz.prog 11 #[vptr q1, .int .i64 i] w1 fun e w2 => ∃ x, e = .returned (.int .u64 x) ∧ Acc w0 w w2 q f r V S q1 r1 V1 R1 := by
  refine (Vw.Zr h.trio.view h.trio.mem i hi).mono ?_
  rintro e w2 ⟨rfl, rfl⟩
  exact ⟨_, rfl, h⟩
theorem rRead_acc (h : Acc w0 w w1 q f r V S q1 r1 V1 R1) (i : Int) (hi : oki i) : Calls Tryz.prog 40 #[rptr r1, .int .i64 i] w1 fun e w2 => ∃ x, e = .returned (.int .u64 x) ∧ Acc w0 w w2 q f r V S q1 r1 V1 R1 := by
  refine (Rf.Zr h.trio.ref i hi).mono ?_
  rintro e w2 ⟨x, rfl, rfl⟩
  exact ⟨_, rfl, h⟩
theorem vWrite_acc (h : Acc w0 w w1 q f r V S q1 r1 V1 R1) (i v : Int) (hi : oki i) (hv : okw v) : Calls Tryz.prog 16 #[vptr q1, .int .i64 i, .int .u64 v] w1 fun e w2 => ∃ x, e = .returned (.int .i64 x) ∧ ∃ V2, Acc w0 w w2 q f r V S q1 r1 V2 R1 := by
  refine (Vw.ZP h.trio.view i v hi hv).mono ?_
  rintro e w2 ⟨rfl, h1, h2⟩
  refine ⟨_, rfl, _, h.view h1 (h2.mono fun x hx => .inl (by simp at hx; simp [Vp.list, hx])) (fun _ hb => .inl hb) ?_ rfl⟩
  intro o
  split
  · rename_i hb; exact o.put hb
  · exact o
theorem vCard_acc (h : Acc w0 w w1 q f r V S q1 r1 V1 R1) (i : Int) (hi : oki i) : Calls Tryz.prog 24 #[vptr q1, .int .i64 i] w1 fun e w2 => ∃ c x, e = .returned (.tuple #[Crd.val c, .int .i64 x]) ∧ ∃ V2, Acc w0 w w2 q f r V S q1 r1 V2 R1 := by
  by_cases h0 : 0 ≤ i ∧ i < 24
  · obtain ⟨cc, hcc, _⟩ := Cp.read_both (V1.reads S (8 + 8 * i) 8) (fun x hx => okw_wf (by
      unfold VS.reads at hx
      obtain ⟨j, _, rfl⟩ := List.mem_map.1 hx
      exact vread_ok h.trio.view.ok h.trio.mem.ok _))
    obtain ⟨k, hk⟩ := hcc.rounds
    obtain ⟨a0, a1, a2, a3, a4, a5, a6, a7, a8, a9, x⟩ := cc
    refine (Vw.YU h.trio.view h.trio.mem i h0 k ⟨a0, a1, a2, a3, a4, a5, a6, a7, a8, a9⟩ x hk (fun b hb e => h.trio.fq b hb (by rw [e]; simp [Vp.list]))).mono ?_
    rintro e w2 ⟨rfl, h1, h2⟩
    exact ⟨_, _, rfl, _, h.view h1 (h2.mono fun x hx => .inl (by simp at hx; simp [Vp.list, hx])) (fun _ hb => .inl hb) (fun o => o.same rfl) rfl⟩
  · refine (Card_out h.trio.view i h0).mono ?_
    rintro e w2 ⟨rfl, hb⟩
    exact ⟨_, _, rfl, _, h.step hb⟩
theorem vSet_acc (h : Acc w0 w w1 q f r V S q1 r1 V1 R1) (i : Int) (c : Crd) (hc : okw c.v) : Calls Tryz.prog 26 #[vptr q1, .int .i64 i, c.val] w1 fun e w2 => ∃ x, e = .returned (.int .i64 x) ∧ ∃ V2, Acc w0 w w2 q f r V S q1 r1 V2 R1 := by
  obtain ⟨l, e, he, _, h8, hw, _⟩ := Cp.write_both c.k c.l c.s c.v c.d0 c.d1 c.d2 c.d3 c.d4 c.m hc
  obtain ⟨k, hk⟩ := he.rounds
  by_cases hb : (0 ≤ i ∧ i < 24) ∧ e = 0
  · obtain ⟨h0, rfl⟩ := hb
    refine (Vw.Set_calls h.trio.view i h0 k c l hk (h8 rfl) (fun v hv => hw v hv)).mono ?_
    rintro e w2 ⟨rfl, h1, h2⟩
    refine ⟨_, rfl, _, h.view h1 (h2.mono fun x hx => .inl (by simp at hx; rcases hx with rfl | rfl | rfl <;> simp [Vp.list])) (fun _ hb => .inl hb) (fun o => ?_) rfl⟩
    refine Opn.puts (V := (V1.see i).own' i) (o.same rfl) (fun j h1 h2 => ?_)
    rw [h8 rfl] at h2
    rw [openB_iff]; omega
  · refine (Set_bad h.trio.view i k c l e hk (if hx : 0 ≤ i ∧ i < 24 then .inr (fun he => hb ⟨hx, he⟩) else .inl hx)).mono ?_
    rintro e w2 ⟨rfl, hb⟩
    exact ⟨_, rfl, _, h.step hb⟩
theorem vBlock_acc (h : Acc w0 w w1 q f r V S q1 r1 V1 R1) (i : Int) : Calls Tryz.prog 28 #[vptr q1, .int .i64 i] w1 fun e w2 => ∃ A n cap l x, e = .returned (.tuple #[.slice A n cap, .int .i64 x]) ∧ Kd.C (Kd.int .u64) w2 A n l ∧ l.length = n ∧ n ≤ 16 ∧ n ≤ cap ∧ Acc w0 w w2 q f r V S q1 r1 V1 R1 := by
  by_cases h0 : 0 ≤ i ∧ i < 96
  · refine (Vw.Yp h.trio.view h.trio.mem i h0).mono ?_
    rintro e w2 ⟨A, cap, rfl, hC, hc, hb⟩
    exact ⟨A, 16, cap, _, 0, rfl, hC, VS.Zh _ _ _ _, by omega, hc, h.step hb⟩
  · refine (Block_out h.trio.view i h0).mono ?_
    rintro e w2 ⟨rfl, hb⟩
    exact ⟨none, 0, 0, [], 1, rfl, ⟨rfl, by decide, fun h => absurd h (by simp)⟩, rfl, by omega, by omega, h.step hb⟩
theorem vSetBlock_acc (h : Acc w0 w w1 q f r V S q1 r1 V1 R1) (i : Int) {A : Option Addr} {c : Nat} {l : List Int} (hr : Kd.C (Kd.int .u64) w0 A l.length l) (hw : ∀ v ∈ l, okw v) : Calls Tryz.prog 31 #[vptr q1, .int .i64 i, .slice A l.length c] w1 fun e w2 => ∃ x, e = .returned (.int .i64 x) ∧ ∃ V2, Acc w0 w w2 q f r V S q1 r1 V2 R1 := by
  by_cases h0 : 0 ≤ i ∧ i < 96
  · by_cases h1 : l.length ≤ 16
    · refine (Vw.ZH h.trio.view (c := c) i (Kd.zZ hr h.trio.below) h0 h1 hw).mono ?_
      rintro e w2 ⟨rfl, h2, h3⟩
      refine ⟨_, rfl, _, h.view h2 (h3.mono fun x hx => .inl (by simp at hx; simp [Vp.list, hx])) (fun _ hb => .inl hb) (fun o => o.puts fun j h4 h5 => ?_) rfl⟩
      rw [padB_len l h1] at h5
      rw [openB_iff]; omega
    · refine (SetBlock_long h.trio.view i A l.length c h0 (by omega)).mono ?_
      rintro e w2 ⟨rfl, hb⟩
      exact ⟨_, rfl, _, h.step hb⟩
  · refine (SetBlock_out h.trio.view i A l.length c h0).mono ?_
    rintro e w2 ⟨rfl, hb⟩
    exact ⟨_, rfl, _, h.step hb⟩
theorem vAvoid_acc (h : Acc w0 w w1 q f r V S q1 r1 V1 R1) {A : Option Addr} {c : Nat} {l : List Int} (hr : Kd.C (Kd.int .i64) w0 A l.length l) (hl : l.length ≤ 9223372036854775807) (hw : ∀ v ∈ l, oki v) : Calls Tryz.prog 33 #[vptr q1, .slice A l.length c, .slice A l.length c] w1 fun e w2 => e = .returned (.tuple #[]) ∧ ∃ q2 V2, q2.p = q1.p ∧ Acc w0 w w2 q f r V S q2 r1 V2 R1 := by
  refine (Vw.Avoid_calls h.trio.view (Kd.zZ hr h.trio.below) (Kd.zZ hr h.trio.below) (by omega) (by omega) hw hw).mono ?_
  rintro e w2 ⟨rfl, b1, b2, n1, n2, h1, h2⟩
  refine ⟨rfl, q1.avoid b1 b2, _, rfl, h.view h1 (h2.mono fun x hx => .inl (by simp at hx; simp [Vp.list, hx])) (fun b hb => ?_) (fun o => o.same rfl) rfl⟩
  simp only [Vp.list, Vp.avoid, List.mem_append, List.mem_cons, List.not_mem_nil, or_false, Option.toList_some] at hb
  rcases hb with ((hb | hb | hb | hb) | hb) | hb
  · exact .inl (by subst hb; simp [Vp.list])
  · exact .inl (by subst hb; simp [Vp.list])
  · exact .inl (by subst hb; simp [Vp.list])
  · exact .inl (by subst hb; simp [Vp.list])
  · exact .inr (by subst hb; exact n1)
  · exact .inr (by subst hb; exact n2)
theorem vReset_acc (h : Acc w0 w w1 q f r V S q1 r1 V1 R1) : Calls Tryz.prog 38 #[vptr q1] w1 fun e w2 => e = .returned (.tuple #[]) ∧ ∃ q2 V2, q2.p = q1.p ∧ Acc w0 w w2 q f r V S q2 r1 V2 R1 := by
  refine (Vw.Yl h.trio.view).mono ?_
  rintro e w2 ⟨rfl, s, n1, h1, h2⟩
  refine ⟨rfl, q1.wiped s, _, rfl, h.view h1 (h2.mono fun x hx => .inl (by simp at hx; simp [Vp.list, hx])) (fun b hb => ?_) (fun _ y hy => by cases hy) rfl⟩
  simp only [Vp.list, Vp.wiped, List.mem_append, List.mem_cons, List.not_mem_nil, or_false] at hb
  rcases hb with ((hb | hb | hb | hb) | hb) | hb
  · exact .inl (by subst hb; simp [Vp.list])
  · exact .inr (by omega)
  · exact .inr (by omega)
  · exact .inr (by omega)
  · exact .inl (by simp only [Vp.list, List.mem_append]; exact .inl (.inr hb))
  · exact .inl (by simp only [Vp.list, List.mem_append]; exact .inr hb)
theorem rWrite_acc (h : Acc w0 w w1 q f r V S q1 r1 V1 R1) (i v : Int) (hi : oki i) (hv : okw v) : Calls Tryz.prog 23 #[rptr r1, .int .i64 i, .int .u64 v] w1 fun e w2 => ∃ x, e = .returned (.int .i64 x) ∧ ∃ R2, Acc w0 w w2 q f r V S q1 r1 V1 R2 := by
  refine (Rf.ZP h.trio.ref i v hi hv).mono ?_
  rintro e w2 ⟨x, R2, rfl, h1, _, _, h2⟩
  exact ⟨_, rfl, _, h.refs h1 (h2.mono fun x hx => .inl (by simp at hx; simp [Rp.list, hx])) (fun _ hb => .inl hb) rfl⟩
theorem rCard_acc (h : Acc w0 w w1 q f r V S q1 r1 V1 R1) (i : Int) (hi : oki i) : Calls Tryz.prog 25 #[rptr r1, .int .i64 i] w1 fun e w2 => ∃ c x, e = .returned (.tuple #[Crd.val c, .int .i64 x]) ∧ ∃ R2, Acc w0 w w2 q f r V S q1 r1 V1 R2 := by
  refine (Rf.YU h.trio.ref i hi).mono ?_
  rintro e w2 ⟨c, x, R2, rfl, h1, _, _, h2⟩
  exact ⟨_, _, rfl, _, h.refs h1 (h2.mono fun x hx => .inl (by simp at hx; simp [Rp.list, hx])) (fun _ hb => .inl hb) rfl⟩
theorem rSet_acc (h : Acc w0 w w1 q f r V S q1 r1 V1 R1) (i : Int) (hi : oki i) (c : Crd) (hc : okw c.v) : Calls Tryz.prog 27 #[rptr r1, .int .i64 i, c.val] w1 fun e w2 => ∃ x, e = .returned (.int .i64 x) ∧ ∃ R2, Acc w0 w w2 q f r V S q1 r1 V1 R2 := by
  refine (Rf.Set_calls h.trio.ref i hi c hc).mono ?_
  rintro e w2 ⟨x, R2, rfl, h1, _, _, h2⟩
  exact ⟨_, rfl, _, h.refs h1 (h2.mono fun x hx => .inl (by simp at hx; rcases hx with rfl | rfl <;> simp [Rp.list])) (fun _ hb => .inl hb) rfl⟩
theorem rBlock_acc (h : Acc w0 w w1 q f r V S q1 r1 V1 R1) (i : Int) (hi : oki i) : Calls Tryz.prog 29 #[rptr r1, .int .i64 i] w1 fun e w2 => ∃ A n cap l x, e = .returned (.tuple #[.slice A n cap, .int .i64 x]) ∧ Kd.C (Kd.int .u64) w2 A n l ∧ l.length = n ∧ n ≤ 16 ∧ n ≤ cap ∧ Below w1.heap.size w1 w2 ∧ Acc w0 w w2 q f r V S q1 r1 V1 R1 := by
  refine (Rf.Yp h.trio.ref i hi).mono ?_
  rintro e w2 ⟨A, n, c, l, x, rfl, hC, hl, h16, hn, hb⟩
  exact ⟨A, n, c, l, x, rfl, hC, hl, h16, hn, hb, h.step hb⟩
theorem rSetBlock_acc (h : Acc w0 w w1 q f r V S q1 r1 V1 R1) (i : Int) (hi : oki i) {A : Option Addr} {c : Nat} {l : List Int} (hr : Kd.C (Kd.int .u64) w0 A l.length l) (hw : ∀ v ∈ l, okw v) : Calls Tryz.prog 32 #[rptr r1, .int .i64 i, .slice A l.length c] w1 fun e w2 => ∃ x, e = .returned (.int .i64 x) ∧ ∃ R2, Acc w0 w w2 q f r V S q1 r1 V1 R2 := by
  refine (Rf.ZH h.trio.ref h.trio.below i hi (c := c) hr hw).mono ?_
  rintro e w2 ⟨x, R2, rfl, h1, _, _, h2⟩
  exact ⟨_, rfl, _, h.refs h1 (h2.mono fun x hx => .inl (by simp at hx; simp [Rp.list, hx])) (fun _ hb => .inl hb) rfl⟩
theorem rReset_acc (h : Acc w0 w w1 q f r V S q1 r1 V1 R1) : Calls Tryz.prog 39 #[rptr r1] w1 fun e w2 => e = .returned (.tuple #[]) ∧ ∃ r2 R2, r2.p = r1.p ∧ Acc w0 w w2 q f r V S q1 r2 V1 R2 := by
  refine (Rf.Yl h.trio.ref h.trio.below).mono ?_
  rintro e w2 ⟨rfl, r2, R2, hp, h1, h2, h3⟩
  exact ⟨rfl, _, _, hp, h.refs h1 (h3.mono fun x hx => .inl (by simp at hx; simp [Rp.list, hx])) h2 hp⟩
end
end Go.Proofs.YtkbhilhefnahpaaGreat.Rf
