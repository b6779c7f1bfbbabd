/- A memory whose words may be lost: what it is, told of a world. -/
import Derived.Test.YtifdinoioddnlaaPrint0
import Derived.Test.YtifdinoioddnlaaHslicesCloneU64
import Derived.Test.YtifdinoioddnlaaMapL
namespace Go.Proofs.Ytifdinoioddnlaa.Mem
open Go Go.RowKit Go.Proofs.Ytifdinoioddnlaa.ML Go.Proofs.YtifdinoioddnlaaW.PrintWords
set_option linter.unusedVariables false
set_option linter.unusedSimpArgs false
theorem mt : MT Try.prog 55 3 31 := ⟨Try.underlying55, Try.underlying3⟩
theorem zrunU (w : World) : (zeroValue 31).run Try.prog w = .ok (.int .u64 0) w := by kernel_rfl
def ek : EK Try.prog 31 Int := ekInt Try.underlying31 zrunU
/-- But for the blocks L nothing has turned. -/
structure Turn (L : List Nat) (w w' : World) : Prop where
  os : w'.os = w.os
  tape : w'.tape = w.tape
  output : w'.output = w.output
  size : w.heap.size ≤ w'.heap.size
  block : ∀ k, k < w.heap.size → k ∉ L → w'.heap[k]? = w.heap[k]?
theorem Turn.refl (L : List Nat) (w : World) : Turn L w w := ⟨rfl, rfl, rfl, Nat.le_refl _, fun _ _ _ => rfl⟩
theorem Turn.trans {L : List Nat} {a b c : World} (h : Turn L a b) (k : Turn L b c) : Turn L a c :=
  ⟨k.os.trans h.os, k.tape.trans h.tape, k.output.trans h.output, Nat.le_trans h.size k.size, fun i hi hn => (k.block i (Nat.lt_of_lt_of_le hi h.size) hn).trans (h.block i hi hn)⟩
theorem Turn.mono {L L' : List Nat} {w w' : World} (h : Turn L w w') (hL : ∀ x ∈ L, x ∈ L' ∨ w.heap.size ≤ x) : Turn L' w w' :=
  ⟨h.os, h.tape, h.output, h.size, fun k hk hn => h.block k hk fun hm => (hL k hm).elim hn (by omega)⟩
theorem Turn.below {L : List Nat} {w w' : World} (h : Turn L w w') {B : Nat} (hB : B ≤ w.heap.size) (hL : ∀ x ∈ L, B ≤ x) : Below B w w' :=
  ⟨h.os, h.tape, h.output, h.size, fun k hk => h.block k (by omega) fun hm => by have := hL k hm; omega⟩
theorem Turn.of_below {w w' : World} (h : Below w.heap.size w w') (L : List Nat) : Turn L w w' := ⟨h.os, h.tape, h.output, h.size, fun k hk _ => h.block k hk⟩
theorem Turn.of_grown {w w' : World} {b : Nat} (h : w.grownBy w' (some b)) : Turn [b] w w' := ⟨h.os, h.tape, h.output, h.size, fun k hk hn => h.block k hk (by simpa using hn)⟩
theorem Turn.of_grown0 {w w' : World} (h : w.grownBy w' none) (L : List Nat) : Turn L w w' := ⟨h.os, h.tape, h.output, h.size, fun k hk _ => h.block k hk (by simp)⟩
theorem Turn.setCell (w : World) (a : Addr) (v : Value) : Turn [a.block] w (w.setCell a v) :=
  ⟨rfl, rfl, rfl, by simp [World.setCell], fun k hk hn => Below.heap_setCell w a v k (by simpa using hn)⟩
theorem Turn.drew (w : World) (L : List Nat) : Turn L w w.drew := ⟨rfl, rfl, rfl, Nat.le_refl _, fun _ _ _ => rfl⟩

structure Cell where
  sure : Int
  loose : Option Int
  way : Option Int
structure MS where
  ws : List Cell
  calls : Int
  til : Int
structure Fp where
  p : Nat
  bs : Nat
  bl : Nat
  bw : Nat
def Fp.list (f : Fp) : List Nat := [f.p, f.bs, f.bl, f.bw]
/-- The words of a map, by their places. -/
def pick (g : Cell → Option Int) : Int → List Cell → List (Int × Int)
  | _, [] => []
  | i, c :: r => match g c with
    | some v => (i, v) :: pick g (i + 1) r
    | none => pick g (i + 1) r
theorem pick_lo {g : Cell → Option Int} : ∀ (r : List Cell) (i : Int), ∀ y ∈ pick g i r, i ≤ y.1 ∧ y.1 < i + r.length
  | [], _, y, hy => by cases hy
  | c :: r, i, y, hy => by
    have ih := pick_lo (g := g) r (i + 1)
    unfold pick at hy
    split at hy
    · rcases List.mem_cons.1 hy with rfl | hy
      · simp; omega
      · have := ih y hy; simp; omega
    · have := ih y hy; simp; omega
theorem pick_sorted {g : Cell → Option Int} : ∀ (r : List Cell) (i : Int), Sorted (pick g i r)
  | [], _ => sorted_nil
  | c :: r, i => by
    unfold pick
    split
    · refine List.pairwise_cons.2 ⟨fun y hy => ?_, pick_sorted r (i + 1)⟩
      have := pick_lo r (i + 1) y hy
      simp; omega
    · exact pick_sorted r (i + 1)
theorem pick_get {g : Cell → Option Int} : ∀ (r : List Cell) (i k : Int), get (pick g i r) k = if i ≤ k then (r[(k - i).toNat]?).bind g else none
  | [], i, k => by simp [pick, get_nil]
  | c :: r, i, k => by
    have ih := pick_get (g := g) r (i + 1) k
    have h0 : get (pick g i (c :: r)) k = if i = k then g c else get (pick g (i + 1) r) k := by
      rw [pick]
      split
      · rename_i v hv
        rw [get_cons]
        simp [hv]
      · rename_i hv
        by_cases hk : i = k
        · subst hk
          rw [if_pos rfl, hv]
          exact get_none_of fun y hy => by have := pick_lo r (i + 1) y hy; omega
        · rw [if_neg hk]
    rw [h0, ih]
    by_cases hk : i = k
    · subst hk; simp
    · rw [if_neg hk]
      by_cases hle : i ≤ k
      · rw [if_pos hle, if_pos (by omega)]
        have : (k - i).toNat = (k - (i + 1)).toNat + 1 := by omega
        rw [this, List.getElem?_cons_succ]
      · rw [if_neg hle, if_neg (by omega)]
/-- What the maps hold. -/
def MS.looseM (S : MS) : List (Int × Int) := pick Cell.loose 0 S.ws
def MS.wayM (S : MS) : List (Int × Int) := pick Cell.way 0 S.ws
def MS.sures (S : MS) : List Value := S.ws.map fun c => .int .u64 c.sure
def MS.at (S : MS) (i : Int) : Cell := S.ws.getD i.toNat ⟨0, none, none⟩
theorem MS.get_loose (S : MS) (i : Int) (h : 0 ≤ i) (hn : i < S.ws.length) : get S.looseM i = (S.at i).loose := by
  unfold MS.looseM MS.at
  rw [pick_get, if_pos h]
  have : (i - 0).toNat = i.toNat := by omega
  rw [this, List.getElem?_eq_getElem (by omega), List.getD_eq_getElem?_getD, List.getElem?_eq_getElem (by omega)]
  rfl
theorem MS.get_way (S : MS) (i : Int) (h : 0 ≤ i) (hn : i < S.ws.length) : get S.wayM i = (S.at i).way := by
  unfold MS.wayM MS.at
  rw [pick_get, if_pos h]
  have : (i - 0).toNat = i.toNat := by omega
  rw [this, List.getElem?_eq_getElem (by omega), List.getD_eq_getElem?_getD, List.getElem?_eq_getElem (by omega)]
  rfl
theorem MS.get_loose_out (S : MS) (i : Int) (h : i < 0 ∨ S.ws.length ≤ i) : get S.looseM i = none := by
  unfold MS.looseM
  rw [pick_get]
  split
  · rw [List.getElem?_eq_none (by omega)]; rfl
  · rfl
theorem MS.get_way_out (S : MS) (i : Int) (h : i < 0 ∨ S.ws.length ≤ i) : get S.wayM i = none := by
  unfold MS.wayM
  rw [pick_get]
  split
  · rw [List.getElem?_eq_none (by omega)]; rfl
  · rfl
theorem MS.loose_len (S : MS) : S.looseM.length ≤ S.ws.length := length_le (pick_sorted _ _) (n := S.ws.length) (lo := 0) fun x hx => pick_lo _ _ x hx
theorem MS.way_len (S : MS) : S.wayM.length ≤ S.ws.length := length_le (pick_sorted _ _) (n := S.ws.length) (lo := 0) fun x hx => pick_lo _ _ x hx
/-- Numbers that are words. -/
def okw (v : Int) : Prop := 0 ≤ v ∧ v < 18446744073709551616
def oki (v : Int) : Prop := -9223372036854775808 ≤ v ∧ v < 9223372036854775808
def Cell.ok (c : Cell) : Prop := okw c.sure ∧ (∀ v, c.loose = some v → okw v) ∧ (∀ v, c.way = some v → okw v)
structure MS.Ok (S : MS) : Prop where
  len : S.ws.length ≤ 4096
  cells : ∀ c ∈ S.ws, c.ok
  calls : oki S.calls
  til : oki S.til
theorem MS.Ok.at {S : MS} (h : S.Ok) (i : Int) : (S.at i).ok := by
  unfold MS.at
  rw [List.getD_eq_getElem?_getD]
  rcases Nat.lt_or_ge i.toNat S.ws.length with hl | hl
  · rw [List.getElem?_eq_getElem hl]; exact h.cells _ (List.getElem_mem hl)
  · rw [List.getElem?_eq_none hl]
    exact ⟨⟨by decide, by decide⟩, (fun v hv => by cases hv), (fun v hv => by cases hv)⟩
/-- The row of the sure words. -/
def IsRow (w : World) (bs : Nat) (A : Option Addr) (n cap : Nat) (xs : List Value) : Prop :=
  n ≤ cap ∧ cap ≤ maxLen ∧ xs.length = n ∧ (0 < n → A = some ⟨bs, 0, none⟩ ∧ ∃ cur, w.heap[bs]? = some (.cells cur 31 (0, 0)) ∧ n ≤ cur.size ∧ cur.toList.take n = xs)
structure IsMem (w : World) (f : Fp) (S : MS) : Prop where
  ok : S.Ok
  row : ∃ A cap, w.heap[f.p]? = some (.cells #[.slice A S.ws.length cap, .map (some f.bl), .map (some f.bw), .int .i64 S.calls, .int .i64 S.til] 57 (0, 0)) ∧ IsRow w f.bs A S.ws.length cap S.sures
  loose : IsM ek 3 w f.bl S.looseM
  way : IsM ek 3 w f.bw S.wayM
  ne : f.bl ≠ f.bw
  lt : f.bs < w.heap.size
theorem IsMem.lts {w : World} {f : Fp} {S : MS} (h : IsMem w f S) : ∀ b ∈ f.list, b < w.heap.size := by
  obtain ⟨A, cap, hp, _⟩ := h.row
  intro b hb
  simp only [Fp.list, List.mem_cons, List.not_mem_nil, or_false] at hb
  rcases hb with rfl | rfl | rfl | rfl
  · exact (Array.getElem?_eq_some_iff.1 hp).1
  · exact h.lt
  · exact h.loose.lt
  · exact h.way.lt
theorem IsMem.of_blocks {w w' : World} {f : Fp} {S : MS} (h : IsMem w f S) (hsz : w.heap.size ≤ w'.heap.size) (hb : ∀ b ∈ f.list, w'.heap[b]? = w.heap[b]?) : IsMem w' f S := by
  obtain ⟨A, cap, hp, h1, h2, h3, h4⟩ := h.row
  have e0 := hb f.p (by simp [Fp.list])
  have e1 := hb f.bs (by simp [Fp.list])
  have e2 := hb f.bl (by simp [Fp.list])
  have e3 := hb f.bw (by simp [Fp.list])
  refine ⟨h.ok, ⟨A, cap, e0.trans hp, h1, h2, h3, fun h0 => ?_⟩, h.loose.block e2, h.way.block e3, h.ne, Nat.lt_of_lt_of_le h.lt hsz⟩
  obtain ⟨hA, cur, hc, h5, h6⟩ := h4 h0
  exact ⟨hA, cur, e1.trans hc, h5, h6⟩
theorem IsMem.kept {w w' : World} {f : Fp} {S : MS} (h : IsMem w f S) {L : List Nat} (ht : Turn L w w') (hL : ∀ b ∈ f.list, b ∉ L) : IsMem w' f S :=
  h.of_blocks ht.size fun b hb => ht.block b (h.lts b hb) (hL b hb)
theorem IsMem.below {w w' : World} {f : Fp} {S : MS} (h : IsMem w f S) (hb : Below w.heap.size w w') : IsMem w' f S :=
  h.of_blocks hb.size fun b hm => hb.block b (h.lts b hm)
/-- Which blocks are not one. -/
structure Fp.Apart (f : Fp) : Prop where
  pbs : f.p ≠ f.bs
  pbl : f.p ≠ f.bl
  pbw : f.p ≠ f.bw
  sl : f.bs ≠ f.bl
  sw : f.bs ≠ f.bw
  lw : f.bl ≠ f.bw
theorem cell_of {w : World} {b o : Nat} {c : Array Value} {e : TypeId} {fr : Nat × Nat} {v : Value} (h : w.heap[b]? = some (.cells c e fr)) (hv : c[o]? = some v) : w.cell? ⟨b, o, none⟩ = some v := by
  simp [World.cell?, h, hv]
theorem frozen_of {w : World} {b o : Nat} {c : Array Value} {e : TypeId} (h : w.heap[b]? = some (.cells c e (0, 0))) : w.frozen? ⟨b, o, none⟩ = false := by
  simp [World.frozen?, h]
theorem heap_set_same {w : World} {b o : Nat} {c : Array Value} {e : TypeId} {fr : Nat × Nat} (v : Value) (h : w.heap[b]? = some (.cells c e fr)) : (w.setCell ⟨b, o, none⟩ v).heap[b]? = some (.cells (c.setIfInBounds o v) e fr) := by
  simp [World.setCell, Array.getElem?_modify, h]
/-- What a walk is handed. -/
structure IsMem.Facts (w : World) (f : Fp) (S : MS) (A : Option Addr) (cap : Nat) : Prop where
  c0 : w.cell? ⟨f.p, 0, none⟩ = some (.slice A S.ws.length cap)
  c1 : w.cell? ⟨f.p, 1, none⟩ = some (.map (some f.bl))
  c2 : w.cell? ⟨f.p, 2, none⟩ = some (.map (some f.bw))
  c3 : w.cell? ⟨f.p, 3, none⟩ = some (.int .i64 S.calls)
  c4 : w.cell? ⟨f.p, 4, none⟩ = some (.int .i64 S.til)
  f3 : w.frozen? ⟨f.p, 3, none⟩ = false
  f4 : w.frozen? ⟨f.p, 4, none⟩ = false
theorem IsMem.facts {w : World} {f : Fp} {S : MS} (h : IsMem w f S) : ∃ A cap, IsMem.Facts w f S A cap ∧ IsRow w f.bs A S.ws.length cap S.sures := by
  obtain ⟨A, cap, hp, hr⟩ := h.row
  exact ⟨A, cap, ⟨cell_of hp rfl, cell_of hp rfl, cell_of hp rfl, cell_of hp rfl, cell_of hp rfl, frozen_of hp, frozen_of hp⟩, hr⟩
/-- A word of the row. -/
theorem IsRow.cell {w : World} {bs n cap : Nat} {A : Option Addr} {S : MS} (h : IsRow w bs A n cap S.sures) (i : Int) (h0 : 0 ≤ i) (h1 : i < n) : A = some ⟨bs, 0, none⟩ ∧ w.cell? ⟨bs, i.toNat, none⟩ = some (.int .u64 (S.at i).sure) ∧ w.frozen? ⟨bs, i.toNat, none⟩ = false := by
  obtain ⟨_, _, hl, h4⟩ := h
  obtain ⟨hA, cur, hc, h5, h6⟩ := h4 (by omega)
  refine ⟨hA, cell_of hc ?_, frozen_of hc⟩
  have hlt : i.toNat < S.ws.length := by simp [MS.sures] at hl; omega
  have e : S.sures[i.toNat]? = some (.int .u64 (S.at i).sure) := by
    unfold MS.sures MS.at
    rw [List.getElem?_map, List.getElem?_eq_getElem hlt, List.getD_eq_getElem?_getD, List.getElem?_eq_getElem hlt]
    rfl
  rw [← h6, List.getElem?_take] at e
  split at e
  · simpa using e
  · cases e
/-- Two numbers of the struct are written. -/
theorem IsMem.setNum {w : World} {f : Fp} {S : MS} (h : IsMem w f S) (c : Int) (hc : oki c) : IsMem (w.setCell ⟨f.p, 3, none⟩ (.int .i64 c)) f { S with calls := c } ∧ Turn [f.p] w (w.setCell ⟨f.p, 3, none⟩ (.int .i64 c)) := by
  obtain ⟨A, cap, hp, h1, h2, h3, h4⟩ := h.row
  have ht := Turn.setCell w ⟨f.p, 3, none⟩ (.int .i64 c)
  have hs := heap_set_same (o := 3) (.int .i64 c) hp
  have hl := h.loose.ne_cells hp
  have hw := h.way.ne_cells hp
  have hb : ∀ b, b ≠ f.p → (w.setCell ⟨f.p, 3, none⟩ (.int .i64 c)).heap[b]? = w.heap[b]? := fun b hb => Below.heap_setCell w _ _ b hb
  refine ⟨⟨⟨h.ok.len, h.ok.cells, hc, h.ok.til⟩, ⟨A, cap, hs, h1, h2, h3, fun h0 => ?_⟩, h.loose.block (hb _ (Ne.symm hl)), h.way.block (hb _ (Ne.symm hw)), h.ne, Nat.lt_of_lt_of_le h.lt ht.size⟩, ht⟩
  obtain ⟨hA, cur, hcu, h5, h6⟩ := h4 h0
  refine ⟨hA, cur, (hb _ ?_).trans hcu, h5, h6⟩
  intro e
  rw [e, hp] at hcu
  injection hcu with hcu
  injection hcu with _ hcu
  exact absurd hcu (by decide)
theorem IsMem.setTil {w : World} {f : Fp} {S : MS} (h : IsMem w f S) (c : Int) (hc : oki c) : IsMem (w.setCell ⟨f.p, 4, none⟩ (.int .i64 c)) f { S with til := c } ∧ Turn [f.p] w (w.setCell ⟨f.p, 4, none⟩ (.int .i64 c)) := by
  obtain ⟨A, cap, hp, h1, h2, h3, h4⟩ := h.row
  have ht := Turn.setCell w ⟨f.p, 4, none⟩ (.int .i64 c)
  have hs := heap_set_same (o := 4) (.int .i64 c) hp
  have hl := h.loose.ne_cells hp
  have hw := h.way.ne_cells hp
  have hb : ∀ b, b ≠ f.p → (w.setCell ⟨f.p, 4, none⟩ (.int .i64 c)).heap[b]? = w.heap[b]? := fun b hb => Below.heap_setCell w _ _ b hb
  refine ⟨⟨⟨h.ok.len, h.ok.cells, h.ok.calls, hc⟩, ⟨A, cap, hs, h1, h2, h3, fun h0 => ?_⟩, h.loose.block (hb _ (Ne.symm hl)), h.way.block (hb _ (Ne.symm hw)), h.ne, Nat.lt_of_lt_of_le h.lt ht.size⟩, ht⟩
  obtain ⟨hA, cur, hcu, h5, h6⟩ := h4 h0
  refine ⟨hA, cur, (hb _ ?_).trans hcu, h5, h6⟩
  intro e
  rw [e, hp] at hcu
  injection hcu with hcu
  injection hcu with _ hcu
  exact absurd hcu (by decide)
end Go.Proofs.Ytifdinoioddnlaa.Mem
