/- MemA, MemB, MemC, MemD, MemE, MemF, MemG in one text. -/
import Derived.Test.YtkbhilhefnahpaaPrint0
import Derived.Test.YtkbhilhefnahpaaHslicesCloneU64
import Derived.Test.YtkbhilhefnahpaaMapL
import Derived.Handy
import Derived.WalkSpells
namespace Go.Proofs.Ytkbhilhefnahpaa.Mem
open Go Go.RowKit Go.Proofs.Ytkbhilhefnahpaa.ML Go.Proofs.YtkbhilhefnahpaaW.PrintWords
set_option linter.unusedVariables false
set_option linter.unusedSimpArgs false
theorem mt : MT Try.prog 65 3 22 := ⟨Try.underlying65, Try.underlying3⟩
theorem zrunU (w : World) : (zeroValue 22).run Try.prog w = .ok (.int .u64 0) w := by kernel_rfl
def ek : EK Try.prog 22 Int := ekInt Try.underlying22 zrunU
/-- But for the blocks L nothing has turned. -/
structure Turn (L : List Nat) (w w' : World) : Prop where
 os : w'.os = w.os
 tape : w'.tape = w.tape
 output : w'.output = w.output
 size : w.heap.size ≤ w'.heap.size
 block : ∀ k, k < w.heap.size → k ∉ L → w'.heap[k]? = w.heap[k]?
theorem Turn.refl (L : List Nat) (w : World) : Turn L w w := ⟨rfl, rfl, rfl, Nat.le_refl _, fun _ _ _ => rfl⟩
theorem Turn.trans {L : List Nat} {a b c : World} (h : Turn L a b) (k : Turn L b c) : Turn L a c :=
 ⟨k.os.trans h.os, k.tape.trans h.tape, k.output.trans h.output, Nat.le_trans h.size k.size, fun i hi hn => (k.block i (Nat.lt_of_lt_of_le hi h.size) hn).trans (h.block i hi hn)⟩
theorem Turn.mono {L L' : List Nat} {w w' : World} (h : Turn L w w') (hL : ∀ x ∈ L, x ∈ L' ∨ w.heap.size ≤ x) : Turn L' w w' :=
 ⟨h.os, h.tape, h.output, h.size, fun k hk hn => h.block k hk fun hm => (hL k hm).elim hn (by omega)⟩
theorem Turn.below {L : List Nat} {w w' : World} (h : Turn L w w') {B : Nat} (hB : B ≤ w.heap.size) (hL : ∀ x ∈ L, B ≤ x) : Below B w w' :=
 ⟨h.os, h.tape, h.output, h.size, fun k hk => h.block k (by omega) fun hm => by have := hL k hm; omega⟩
theorem Turn.of_below {w w' : World} (h : Below w.heap.size w w') (L : List Nat) : Turn L w w' := ⟨h.os, h.tape, h.output, h.size, fun k hk _ => h.block k hk⟩
theorem Turn.Zi {w w' : World} {b : Nat} (h : w.grownBy w' (some b)) : Turn [b] w w' := ⟨h.os, h.tape, h.output, h.size, fun k hk hn => h.block k hk (by simpa using hn)⟩
theorem Turn.setCell (w : World) (a : Addr) (v : Value) : Turn [a.block] w (w.setCell a v) :=
 ⟨rfl, rfl, rfl, by simp [World.setCell], fun k hk hn => Below.heap_setCell w a v k (by simpa using hn)⟩
theorem Turn.drew (w : World) (L : List Nat) : Turn L w w.drew := ⟨rfl, rfl, rfl, Nat.le_refl _, fun _ _ _ => rfl⟩

structure Cell where
 sure : Int
 loose : Option Int
 way : Option Int
structure MS where
 ws : List Cell
 calls : Int
 til : Int
structure Fp where
 p : Nat
 bs : Nat
 bl : Nat
 bw : Nat
def Fp.list (f : Fp) : List Nat := [f.p, f.bs, f.bl, f.bw]
/-- The words of a map, by their places. -/
def pick (g : Cell → Option Int) : Int → List Cell → List (Int × Int)
 | _, [] => []
 | i, c :: r => match g c with
  | some v => (i, v) :: pick g (i + 1) r
  | none => pick g (i + 1) r
theorem pick_lo {g : Cell → Option Int} : ∀ (r : List Cell) (i : Int), ∀ y ∈ pick g i r, i ≤ y.1 ∧ y.1 < i + r.length
 | [], _, y, hy => by cases hy
 | c :: r, i, y, hy => by
  have ih := pick_lo (g := g) r (i + 1)
  unfold pick at hy
  split at hy
  ·rcases List.mem_cons.1 hy with rfl | hy
   ·simp; omega
   ·have := ih y hy; simp; omega
  ·have := ih y hy; simp; omega
theorem Ze {g : Cell → Option Int} : ∀ (r : List Cell) (i : Int), Sorted (pick g i r)
 | [], _ => sorted_nil
 | c :: r, i => by
  unfold pick
  split
  ·refine List.pairwise_cons.2 ⟨fun y hy => ?_, Ze r (i + 1)⟩
   have := pick_lo r (i + 1) y hy
   simp; omega
  ·exact Ze r (i + 1)
theorem YO {g : Cell → Option Int} : ∀ (r : List Cell) (i k : Int), get (pick g i r) k = if i ≤ k then (r[(k - i).toNat]?).bind g else none
 | [], i, k => by simp [pick, get_nil]
 | c :: r, i, k => by
  have ih := YO (g := g) r (i + 1) k
  have h0 : get (pick g i (c :: r)) k = if i = k then g c else get (pick g (i + 1) r) k := by
   rw [pick]
   split
   ·rename_i v hv
    rw [yz]
    simp [hv]
   ·rename_i hv
    by_cases hk : i = k
    ·subst hk
     rw [if_pos rfl, hv]
     exact Yt fun y hy => by have := pick_lo r (i + 1) y hy; omega
    ·rw [if_neg hk]
  rw [h0, ih]
  by_cases hk : i = k
  ·subst hk; simp
  ·rw [if_neg hk]
   by_cases hle : i ≤ k
   ·rw [if_pos hle, if_pos (by omega)]
    have : (k - i).toNat = (k - (i + 1)).toNat + 1 := by omega
    rw [this, List.getElem?_cons_succ]
   ·rw [if_neg hle, if_neg (by omega)]
/-- What the maps hold. -/
def MS.Zn (S : MS) : List (Int × Int) := pick Cell.loose 0 S.ws
def MS.wayM (S : MS) : List (Int × Int) := pick Cell.way 0 S.ws
def MS.sures (S : MS) : List Value := S.ws.map fun c => .int .u64 c.sure
def MS.at (S : MS) (i : Int) : Cell := S.ws.getD i.toNat ⟨0, none, none⟩
theorem MS.Yh (S : MS) (i : Int) (h : 0 ≤ i) (hn : i < S.ws.length) : get S.Zn i = (S.at i).loose := by
 unfold MS.Zn MS.at
 rw [YO, if_pos h]
 have : (i - 0).toNat = i.toNat := by omega
 rw [this, List.getElem?_eq_getElem (by omega), List.getD_eq_getElem?_getD, List.getElem?_eq_getElem (by omega)]
 rfl
theorem MS.get_way (S : MS) (i : Int) (h : 0 ≤ i) (hn : i < S.ws.length) : get S.wayM i = (S.at i).way := by
 unfold MS.wayM MS.at
 rw [YO, if_pos h]
 have : (i - 0).toNat = i.toNat := by omega
 rw [this, List.getElem?_eq_getElem (by omega), List.getD_eq_getElem?_getD, List.getElem?_eq_getElem (by omega)]
 rfl
theorem MS.ZR (S : MS) (i : Int) (h : i < 0 ∨ S.ws.length ≤ i) : get S.Zn i = none := by
 unfold MS.Zn
 rw [YO]
 split
 ·rw [List.getElem?_eq_none (by omega)]; rfl
 ·rfl
theorem MS.get_way_out (S : MS) (i : Int) (h : i < 0 ∨ S.ws.length ≤ i) : get S.wayM i = none := by
 unfold MS.wayM
 rw [YO]
 split
 ·rw [List.getElem?_eq_none (by omega)]; rfl
 ·rfl
theorem MS.loose_len (S : MS) : S.Zn.length ≤ S.ws.length := length_le (Ze _ _) (n := S.ws.length) (lo := 0) fun x hx => pick_lo _ _ x hx
/-- Numbers that are words. -/
def okw (v : Int) : Prop := 0 ≤ v ∧ v < 18446744073709551616
def oki (v : Int) : Prop := -9223372036854775808 ≤ v ∧ v < 9223372036854775808
def Cell.ok (c : Cell) : Prop := okw c.sure ∧ (∀ v, c.loose = some v → okw v) ∧ (∀ v, c.way = some v → okw v)
structure MS.Ok (S : MS) : Prop where
 len : S.ws.length ≤ 4096
 cells : ∀ c ∈ S.ws, c.ok
 calls : oki S.calls
 til : oki S.til
theorem MS.Ok.at {S : MS} (h : S.Ok) (i : Int) : (S.at i).ok := by
 unfold MS.at
 rw [List.getD_eq_getElem?_getD]
 rcases Nat.lt_or_ge i.toNat S.ws.length with hl | hl
 ·rw [List.getElem?_eq_getElem hl]; exact h.cells _ (List.getElem_mem hl)
 ·rw [List.getElem?_eq_none hl]
  exact ⟨⟨by decide, by decide⟩, (fun v hv => by cases hv), (fun v hv => by cases hv)⟩
/-- The row of the sure words. -/
def IsRow (w : World) (bs : Nat) (A : Option Addr) (n cap : Nat) (xs : List Value) : Prop :=
 n ≤ cap ∧ cap ≤ maxLen ∧ xs.length = n ∧ (0 < n → A = some ⟨bs, 0, none⟩ ∧ ∃ cur, w.heap[bs]? = some (.cells cur 22 (0, 0)) ∧ n ≤ cur.size ∧ cur.toList.take n = xs)
structure IsMem (w : World) (f : Fp) (S : MS) : Prop where
 ok : S.Ok
 row : ∃ A cap, w.heap[f.p]? = some (.cells #[.slice A S.ws.length cap, .map (some f.bl), .map (some f.bw), .int .i64 S.calls, .int .i64 S.til] 67 (0, 0)) ∧ IsRow w f.bs A S.ws.length cap S.sures
 loose : IsM ek 3 w f.bl S.Zn
 way : IsM ek 3 w f.bw S.wayM
 ne : f.bl ≠ f.bw
 lt : f.bs < w.heap.size
theorem IsMem.lts {w : World} {f : Fp} {S : MS} (h : IsMem w f S) : ∀ b ∈ f.list, b < w.heap.size := by
 obtain ⟨A, cap, hp, _⟩ := h.row
 intro b hb
 simp only [Fp.list, List.mem_cons, List.not_mem_nil, or_false] at hb
 rcases hb with rfl | rfl | rfl | rfl
 ·exact (Array.getElem?_eq_some_iff.1 hp).1
 ·exact h.lt
 ·exact h.loose.lt
 ·exact h.way.lt
theorem IsMem.Zw {w w' : World} {f : Fp} {S : MS} (h : IsMem w f S) (hsz : w.heap.size ≤ w'.heap.size) (hb : ∀ b ∈ f.list, w'.heap[b]? = w.heap[b]?) : IsMem w' f S := by
 obtain ⟨A, cap, hp, h1, h2, h3, h4⟩ := h.row
 have e0 := hb f.p (by simp [Fp.list])
 have e1 := hb f.bs (by simp [Fp.list])
 have e2 := hb f.bl (by simp [Fp.list])
 have e3 := hb f.bw (by simp [Fp.list])
 refine ⟨h.ok, ⟨A, cap, e0.trans hp, h1, h2, h3, fun h0 => ?_⟩, h.loose.block e2, h.way.block e3, h.ne, Nat.lt_of_lt_of_le h.lt hsz⟩
 obtain ⟨hA, cur, hc, h5, h6⟩ := h4 h0
 exact ⟨hA, cur, e1.trans hc, h5, h6⟩
theorem IsMem.kept {w w' : World} {f : Fp} {S : MS} (h : IsMem w f S) {L : List Nat} (ht : Turn L w w') (hL : ∀ b ∈ f.list, b ∉ L) : IsMem w' f S :=
 h.Zw ht.size fun b hb => ht.block b (h.lts b hb) (hL b hb)
theorem IsMem.below {w w' : World} {f : Fp} {S : MS} (h : IsMem w f S) (hb : Below w.heap.size w w') : IsMem w' f S :=
 h.Zw hb.size fun b hm => hb.block b (h.lts b hm)
theorem cell_of {w : World} {b o : Nat} {c : Array Value} {e : TypeId} {fr : Nat × Nat} {v : Value} (h : w.heap[b]? = some (.cells c e fr)) (hv : c[o]? = some v) : w.cell? ⟨b, o, none⟩ = some v := by
 simp [World.cell?, h, hv]
theorem Zx {w : World} {b o : Nat} {c : Array Value} {e : TypeId} (h : w.heap[b]? = some (.cells c e (0, 0))) : w.frozen? ⟨b, o, none⟩ = false := by
 simp [World.frozen?, h]
theorem zZ {w : World} {b o : Nat} {c : Array Value} {e : TypeId} {fr : Nat × Nat} (v : Value) (h : w.heap[b]? = some (.cells c e fr)) : (w.setCell ⟨b, o, none⟩ v).heap[b]? = some (.cells (c.setIfInBounds o v) e fr) := by
 simp [World.setCell, Array.getElem?_modify, h]
/-- What a walk is handed. -/
structure IsMem.Facts (w : World) (f : Fp) (S : MS) (A : Option Addr) (cap : Nat) : Prop where
 c0 : w.cell? ⟨f.p, 0, none⟩ = some (.slice A S.ws.length cap)
 c1 : w.cell? ⟨f.p, 1, none⟩ = some (.map (some f.bl))
 c2 : w.cell? ⟨f.p, 2, none⟩ = some (.map (some f.bw))
 c3 : w.cell? ⟨f.p, 3, none⟩ = some (.int .i64 S.calls)
 c4 : w.cell? ⟨f.p, 4, none⟩ = some (.int .i64 S.til)
 f3 : w.frozen? ⟨f.p, 3, none⟩ = false
 f4 : w.frozen? ⟨f.p, 4, none⟩ = false
theorem IsMem.facts {w : World} {f : Fp} {S : MS} (h : IsMem w f S) : ∃ A cap, IsMem.Facts w f S A cap ∧ IsRow w f.bs A S.ws.length cap S.sures := by
 obtain ⟨A, cap, hp, hr⟩ := h.row
 exact ⟨A, cap, ⟨cell_of hp rfl, cell_of hp rfl, cell_of hp rfl, cell_of hp rfl, cell_of hp rfl, Zx hp, Zx hp⟩, hr⟩
/-- A word of the row. -/
theorem IsRow.cell {w : World} {bs n cap : Nat} {A : Option Addr} {S : MS} (h : IsRow w bs A n cap S.sures) (i : Int) (h0 : 0 ≤ i) (h1 : i < n) : A = some ⟨bs, 0, none⟩ ∧ w.cell? ⟨bs, i.toNat, none⟩ = some (.int .u64 (S.at i).sure) ∧ w.frozen? ⟨bs, i.toNat, none⟩ = false := by
 obtain ⟨_, _, hl, h4⟩ := h
 obtain ⟨hA, cur, hc, h5, h6⟩ := h4 (by omega)
 refine ⟨hA, cell_of hc ?_, Zx hc⟩
 have hlt : i.toNat < S.ws.length := by simp [MS.sures] at hl; omega
 have e : S.sures[i.toNat]? = some (.int .u64 (S.at i).sure) := by
  unfold MS.sures MS.at
  rw [List.getElem?_map, List.getElem?_eq_getElem hlt, List.getD_eq_getElem?_getD, List.getElem?_eq_getElem hlt]
  rfl
 rw [← h6, List.getElem?_take] at e
 split at e
 ·simpa using e
 ·cases e
/-- Two numbers of the struct are written. -/
theorem IsMem.setNum {w : World} {f : Fp} {S : MS} (h : IsMem w f S) (c : Int) (hc : oki c) : IsMem (w.setCell ⟨f.p, 3, none⟩ (.int .i64 c)) f { S with calls := c } ∧ Turn [f.p] w (w.setCell ⟨f.p, 3, none⟩ (.int .i64 c)) := by
 obtain ⟨A, cap, hp, h1, h2, h3, h4⟩ := h.row
 have ht := Turn.setCell w ⟨f.p, 3, none⟩ (.int .i64 c)
 have hs := zZ (o := 3) (.int .i64 c) hp
 have hl := h.loose.yF hp
 have hw := h.way.yF hp
 have hb : ∀ b, b ≠ f.p → (w.setCell ⟨f.p, 3, none⟩ (.int .i64 c)).heap[b]? = w.heap[b]? := fun b hb => Below.heap_setCell w _ _ b hb
 refine ⟨⟨⟨h.ok.len, h.ok.cells, hc, h.ok.til⟩, ⟨A, cap, hs, h1, h2, h3, fun h0 => ?_⟩, h.loose.block (hb _ (Ne.symm hl)), h.way.block (hb _ (Ne.symm hw)), h.ne, Nat.lt_of_lt_of_le h.lt ht.size⟩, ht⟩
 obtain ⟨hA, cur, hcu, h5, h6⟩ := h4 h0
 refine ⟨hA, cur, (hb _ ?_).trans hcu, h5, h6⟩
 intro e
 rw [e, hp] at hcu
 injection hcu with hcu
 injection hcu with _ hcu
 exact absurd hcu (by decide)
theorem IsMem.setTil {w : World} {f : Fp} {S : MS} (h : IsMem w f S) (c : Int) (hc : oki c) : IsMem (w.setCell ⟨f.p, 4, none⟩ (.int .i64 c)) f { S with til := c } ∧ Turn [f.p] w (w.setCell ⟨f.p, 4, none⟩ (.int .i64 c)) := by
 obtain ⟨A, cap, hp, h1, h2, h3, h4⟩ := h.row
 have ht := Turn.setCell w ⟨f.p, 4, none⟩ (.int .i64 c)
 have hs := zZ (o := 4) (.int .i64 c) hp
 have hl := h.loose.yF hp
 have hw := h.way.yF hp
 have hb : ∀ b, b ≠ f.p → (w.setCell ⟨f.p, 4, none⟩ (.int .i64 c)).heap[b]? = w.heap[b]? := fun b hb => Below.heap_setCell w _ _ b hb
 refine ⟨⟨⟨h.ok.len, h.ok.cells, h.ok.calls, hc⟩, ⟨A, cap, hs, h1, h2, h3, fun h0 => ?_⟩, h.loose.block (hb _ (Ne.symm hl)), h.way.block (hb _ (Ne.symm hw)), h.ne, Nat.lt_of_lt_of_le h.lt ht.size⟩, ht⟩
 obtain ⟨hA, cur, hcu, h5, h6⟩ := h4 h0
 refine ⟨hA, cur, (hb _ ?_).trans hcu, h5, h6⟩
 intro e
 rw [e, hp] at hcu
 injection hcu with hcu
 injection hcu with _ hcu
 exact absurd hcu (by decide)
end Go.Proofs.Ytkbhilhefnahpaa.Mem
namespace Go.Proofs.Ytkbhilhefnahpaa.Mem
open Go Go.RowKit Go.Proofs.Ytkbhilhefnahpaa.ML
set_option linter.unusedVariables false
set_option linter.unusedSimpArgs false
def MS.set (S : MS) (i : Int) (c : Cell) : MS := { S with ws := S.ws.set i.toNat c }
theorem MS.Xb (S : MS) (i : Int) (c : Cell) : (S.set i c).ws.length = S.ws.length := by simp [MS.set]
theorem MS.set_at (S : MS) {i : Int} (c : Cell) (h0 : 0 ≤ i) (h1 : i < S.ws.length) (j : Int) (hj : 0 ≤ j) : (S.set i c).at j = if j = i then c else S.at j := by
 unfold MS.at MS.set
 simp only [List.getD_eq_getElem?_getD, List.getElem?_set]
 by_cases h : j = i
 ·subst h
  rw [if_pos rfl, if_pos (by omega), if_pos rfl]
  rfl
 ·rw [if_neg (by omega), if_neg h]
theorem MS.set_ok {S : MS} (h : S.Ok) (i : Int) {c : Cell} (hc : c.ok) : (S.set i c).Ok := by
 refine ⟨by rw [MS.Xb]; exact h.len, fun x hx => ?_, h.calls, h.til⟩
 rcases List.mem_or_eq_of_mem_set hx with hx | rfl
 ·exact h.cells _ hx
 ·exact hc
theorem MS.set_get_loose (S : MS) {i : Int} (c : Cell) (h0 : 0 ≤ i) (h1 : i < S.ws.length) (k : Int) : get (S.set i c).Zn k = if k = i then c.loose else get S.Zn k := by
 have hl := S.Xb i c
 by_cases hk : 0 ≤ k ∧ k < S.ws.length
 ·rw [MS.Yh _ _ hk.1 (by omega), MS.set_at S c h0 h1 k hk.1, MS.Yh _ _ hk.1 hk.2]
  split <;> rfl
 ·rw [MS.ZR _ _ (by omega), MS.ZR _ _ (by omega), if_neg (by omega)]
theorem MS.set_get_way (S : MS) {i : Int} (c : Cell) (h0 : 0 ≤ i) (h1 : i < S.ws.length) (k : Int) : get (S.set i c).wayM k = if k = i then c.way else get S.wayM k := by
 have hl := S.Xb i c
 by_cases hk : 0 ≤ k ∧ k < S.ws.length
 ·rw [MS.get_way _ _ hk.1 (by omega), MS.set_at S c h0 h1 k hk.1, MS.get_way _ _ hk.1 hk.2]
  split <;> rfl
 ·rw [MS.get_way_out _ _ (by omega), MS.get_way_out _ _ (by omega), if_neg (by omega)]
theorem MS.loose_put (S : MS) {i : Int} (h0 : 0 ≤ i) (h1 : i < S.ws.length) (v : Int) (c : Cell) (hc : c.loose = some v) : put S.Zn i v = (S.set i c).Zn := by
 refine ML.ext (sorted_put (Ze _ _) _ _) (Ze _ _) fun k => ?_
 rw [MS.set_get_loose S c h0 h1, get_put, hc]
theorem MS.way_same (S : MS) {i : Int} (h0 : 0 ≤ i) (h1 : i < S.ws.length) (c : Cell) (hc : c.way = (S.at i).way) : (S.set i c).wayM = S.wayM := by
 refine ML.ext (Ze _ _) (Ze _ _) fun k => ?_
 rw [MS.set_get_way S c h0 h1]
 by_cases hk : k = i
 ·subst hk; rw [if_pos rfl, hc, MS.get_way _ _ h0 h1]
 ·rw [if_neg hk]
theorem MS.sures_same (S : MS) {i : Int} (h0 : 0 ≤ i) (h1 : i < S.ws.length) (c : Cell) (hc : c.sure = (S.at i).sure) : (S.set i c).sures = S.sures := by
 unfold MS.sures MS.set
 rw [List.map_set]
 refine List.ext_getElem? fun j => ?_
 rw [List.getElem?_set]
 split
 ·rename_i hj
  subst hj
  rw [if_pos (by simp; omega), List.getElem?_map, List.getElem?_eq_getElem (by omega), hc]
  unfold MS.at
  rw [List.getD_eq_getElem?_getD, List.getElem?_eq_getElem (by omega)]
  rfl
 ·rfl
/-- The struct and its row, behind a turn of one map. -/
theorem IsMem.struct_kept {w w' : World} {f : Fp} {S S' : MS} (h : IsMem w f S) {b : Nat} (ht : Turn [b] w w') (hb : b = f.bl ∨ b = f.bw) (hc : S'.calls = S.calls) (hti : S'.til = S.til) (hl : S'.ws.length = S.ws.length) (hs : S'.sures = S.sures) :
  ∃ A cap, w'.heap[f.p]? = some (.cells #[.slice A S'.ws.length cap, .map (some f.bl), .map (some f.bw), .int .i64 S'.calls, .int .i64 S'.til] 67 (0, 0)) ∧ IsRow w' f.bs A S'.ws.length cap S'.sures := by
 obtain ⟨A, cap, hp, h1, h2, h3, h4⟩ := h.row
 have nb : ∀ {c : Array Value} {el : TypeId} {fr : Nat × Nat} {q : Nat}, w.heap[q]? = some (.cells c el fr) → q ≠ b := by
  intro c el fr q hq
  rcases hb with rfl | rfl
  ·exact h.loose.yF hq
  ·exact h.way.yF hq
 rw [hc, hti, hl, hs]
 refine ⟨A, cap, (ht.block _ (Array.getElem?_eq_some_iff.1 hp).1 (by simpa using nb hp)).trans hp, h1, h2, h3, fun h0 => ?_⟩
 obtain ⟨hA, cur, hcu, h5, h6⟩ := h4 h0
 exact ⟨hA, cur, (ht.block _ (Array.getElem?_eq_some_iff.1 hcu).1 (by simpa using nb hcu)).trans hcu, h5, h6⟩
theorem IsMem.turnLoose {w w' : World} {f : Fp} {S S' : MS} (h : IsMem w f S) (ht : w.mapTurned w' f.bl) (hm : IsM ek 3 w' f.bl S'.Zn) (hok : S'.Ok) (hc : S'.calls = S.calls) (hti : S'.til = S.til) (hl : S'.ws.length = S.ws.length) (hs : S'.sures = S.sures) (hw : S'.wayM = S.wayM) : IsMem w' f S' ∧ Turn [f.bl] w w' := by
 have htn := Turn.Zi (Zu ht)
 refine ⟨⟨hok, h.struct_kept htn (.inl rfl) hc hti hl hs, hm, ?_, h.ne, Nat.lt_of_lt_of_le h.lt htn.size⟩, htn⟩
 rw [hw]
 exact h.way.block (htn.block _ h.way.lt (by simpa using Ne.symm h.ne))
end Go.Proofs.Ytkbhilhefnahpaa.Mem
namespace Go.Proofs.Ytkbhilhefnahpaa.Mem
open Go Go.RowKit Go.Proofs.Ytkbhilhefnahpaa.ML Go.Proofs.YtkbhilhefnahpaaW.PrintWords
set_option linter.unusedVariables false
set_option linter.unusedSimpArgs false
def MS.has (S : MS) (i : Int) : Bool := decide (0 ≤ i ∧ i < S.ws.length)
abbrev ptr (f : Fp) : Value := .pointer (some ⟨f.p, 0, none⟩)
set_option maxHeartbeats 400000 in
theorem there_calls {w : World} {f : Fp} {S : MS} (h : IsMem w f S) (i : Int) (hi : oki i) : Calls Try.prog 52 #[ptr f, .int .i64 i] w fun e w' => e = .returned (.bool (S.has i)) ∧ w = w' := by
 obtain ⟨A, cap, H, hr⟩ := h.facts
 have c0 := H.c0
 clear H hr
 unfold MS.has
 by_cases h0 : 0 ≤ i
 ·have g0 : decide (0 ≤ i) = true := decide_eq_true h0
  by_cases h1 : i < S.ws.length
  ·have g1 : decide (i < (S.ws.length : Int)) = true := decide_eq_true h1
   rw [decide_eq_true (And.intro h0 h1)]
   clear h0 h1
   go_enter Try.func52, Try.ntmps52
   go_wp2
   go_ret
   exact ⟨rfl, rfl⟩
  ·have g1 : decide (i < (S.ws.length : Int)) = false := decide_eq_false h1
   rw [decide_eq_false (fun h => h1 h.2)]
   clear h0 h1
   go_enter Try.func52, Try.ntmps52
   go_wp2
   go_ret
   exact ⟨rfl, rfl⟩
 ·have g0 : decide (0 ≤ i) = false := decide_eq_false h0
  rw [decide_eq_false (fun h => h0 h.1)]
  clear h0
  go_enter Try.func52, Try.ntmps52
  go_wp2
  go_ret
  exact ⟨rfl, rfl⟩
/-- What a call that counts does. -/
def MS.call (S : MS) (there : Bool) : Int × MS :=
 if S.til = 0 then (14, { S with calls := wrap64 (S.calls + 1) })
 else if 0 < S.til then (if there then 0 else 1, { S with calls := wrap64 (S.calls + 1), til := S.til - 1 })
 else (if there then 0 else 1, { S with calls := wrap64 (S.calls + 1) })
theorem oki_wrap (x : Int) : oki (wrap64 x) := by unfold oki wrap64; omega
set_option maxHeartbeats 400000 in
theorem call_calls {w : World} {f : Fp} {S : MS} (h : IsMem w f S) (there : Bool) : Calls Try.prog 51 #[ptr f, .bool there] w fun e w' => e = .returned (.int .i64 (S.call there).1) ∧ IsMem w' f (S.call there).2 ∧ Turn f.list w w' := by
 obtain ⟨h1, t1⟩ := h.setNum (wrap64 (S.calls + 1)) (oki_wrap _)
 obtain ⟨A, cap, H, hr⟩ := h.facts
 obtain ⟨A', cap', H', hr'⟩ := h1.facts
 have c3 := H.c3
 have f3 := H.f3
 have c4 := H'.c4
 have f4 := H'.f4
 have ho := h.ok.til
 unfold oki at ho
 have T1 : Turn f.list w _ := t1.mono (fun x hx => .inl (by simp [Fp.list] at hx ⊢; omega))
 clear H hr H' hr' t1
 unfold MS.call
 by_cases k0 : S.til = 0
 ·rw [if_pos k0]
  have g0 : (S.til == 0) = true := by simp [k0]
  clear k0
  have H1 := ze.mk h1
  have T1' := ze.mk T1
  clear h1 T1 h
  go_enter Try.func51, Try.ntmps51
  go_wp2
  go_ret
  exact ⟨rfl, H1.o, T1'.o⟩
 ·rw [if_neg k0]
  have g0 : (S.til == 0) = false := by simp [k0]
  clear k0
  by_cases k1 : 0 < S.til
  ·rw [if_pos k1]
   have g1 : decide (0 < S.til) = true := decide_eq_true k1
   obtain ⟨h2, t2⟩ := h1.setTil (S.til - 1) (by unfold oki; omega)
   have T2 : Turn f.list w _ := T1.trans (t2.mono (fun x hx => .inl (by simp [Fp.list] at hx ⊢; omega)))
   have hw : IntKind.i64.wrap (S.til - 1) = S.til - 1 := IntWalk.i64_in _ (by omega)
   have H2 := ze.mk h2
   have T2' := ze.mk T2
   clear h2 T2 h t2 T1 h1
   cases there
   ·go_enter Try.func51, Try.ntmps51
    go_wp2
    go_ret
    exact ⟨rfl, H2.o, T2'.o⟩
   ·go_enter Try.func51, Try.ntmps51
    go_wp2
    go_ret
    exact ⟨rfl, H2.o, T2'.o⟩
  ·rw [if_neg k1]
   have g1 : decide (0 < S.til) = false := decide_eq_false k1
   have H1 := ze.mk h1
   have T1' := ze.mk T1
   clear h1 T1 h k1
   cases there
   ·go_enter Try.func51, Try.ntmps51
    go_wp2
    go_ret
    exact ⟨rfl, H1.o, T1'.o⟩
   ·go_enter Try.func51, Try.ntmps51
    go_wp2
    go_ret
    exact ⟨rfl, H1.o, T1'.o⟩
theorem okw_wf {v : Int} (h : okw v) : (Lit.int .u64 v).wf = true := by
 unfold okw at h
 simp [Lit.wf, IntKind.min, IntKind.max, IntKind.bits, IntKind.signed]
 omega
theorem Yq {v : Int} (h : oki v) : (Lit.int .i64 v).wf = true := by
 unfold oki at h
 simp [Lit.wf, IntKind.min, IntKind.max, IntKind.bits, IntKind.signed]
 omega
set_option maxHeartbeats 400000 in
theorem Size_calls {w : World} {f : Fp} {S : MS} (h : IsMem w f S) : Calls Try.prog 35 #[ptr f] w fun e w' => e = .returned (.int .i64 S.ws.length) ∧ w = w' := by
 obtain ⟨A, cap, H, hr⟩ := h.facts
 have c0 := H.c0
 clear H hr h
 go_enter Try.func35, Try.ntmps35
 go_wp2
 go_ret
 exact ⟨rfl, rfl⟩
/-- Store. -/
def MS.store (S : MS) (i v : Int) : Int × MS :=
 let r := S.call (S.has i)
 if r.1 = 0 then (0, r.2.set i ⟨(r.2.at i).sure, some v, (r.2.at i).way⟩) else r
theorem call_ws (S : MS) (b : Bool) : (S.call b).2.ws = S.ws := by
 unfold MS.call
 split
 ·rfl
 ·split <;> rfl
theorem call_ok (S : MS) (b : Bool) (h : (S.call b).1 = 0) : b = true := by
 cases b
 ·unfold MS.call at h
  split at h
  ·cases h
  ·split at h <;> cases h
 ·rfl
set_option maxHeartbeats 400000 in
theorem Store_calls {w : World} {f : Fp} {S : MS} (h : IsMem w f S) (i v : Int) (hi : oki i) (hv : okw v) : Calls Try.prog 21 #[ptr f, .int .i64 i, .int .u64 v] w fun e w' => e = .returned (.int .i64 (S.store i v).1) ∧ IsMem w' f (S.store i v).2 ∧ Turn f.list w w' := by
 have hT : ∃ b, S.has i = b := ⟨_, rfl⟩
 obtain ⟨b, hb⟩ := hT
 have hc := call_calls h b
 have ht := there_calls h i hi
 rw [hb] at ht
 unfold MS.store
 rw [hb]
 have hok := call_ok S b
 have hws := call_ws S b
 generalize hr : S.call b = r at hc hok hws ⊢
 obtain ⟨q, S1⟩ := r
 have hkey := Yq hi
 by_cases k0 : q = 0
 ·subst k0
  obtain rfl := hok rfl
  have hh := hb
  unfold MS.has at hh
  have hh' := of_decide_eq_true hh
  have hn : (i : Int) < S1.ws.length := by simp only [] at hws; rw [hws]; exact hh'.2
  have HN := ze.mk (And.intro hh'.1 hn)
  clear hh hh' hb hr hn hok hws
  simp only [if_true]
  have HI := ze.mk hi
  have HV := ze.mk hv
  have HK := ze.mk hkey
  clear hi hv hkey
  go_enter Try.func21, Try.ntmps21
  go_wp2_with (first
   | (go_at_call 52; refine ht.mono ?_; rintro e w' ⟨rfl, rfl⟩)
   | (go_at_call 51; refine hc.mono ?_; rintro e w1 ⟨rfl, h1, t1⟩; obtain ⟨A, cap, HF, hr⟩ := h1.facts; have c1 := HF.c1; have H1 := ze.mk h1; have T1 := ze.mk t1; clear HF hr h1 t1)
   | (at_mapUpdate; refine wp_put (x := ek) mt rfl _ _ _ rfl rfl H1.o.loose (by have := S1.loose_len; have := H1.o.ok.len; omega) i v rfl rfl HK.o (okw_wf HV.o) ?_; intro w2 hm ht2))
  go_ret
  obtain ⟨r1, r2⟩ := H1.o.turnLoose (S' := S1.set i ⟨(S1.at i).sure, some v, (S1.at i).way⟩) ht2 (by rw [← MS.loose_put S1 HN.o.1 HN.o.2 v _ rfl]; exact hm) (MS.set_ok H1.o.ok i ⟨(H1.o.ok.at i).1, (fun _ e => by cases e; exact HV.o), (H1.o.ok.at i).2.2⟩) rfl rfl (MS.Xb _ _ _) (MS.sures_same _ HN.o.1 HN.o.2 _ rfl) (MS.way_same _ HN.o.1 HN.o.2 _ rfl)
  exact ⟨rfl, r1, T1.o.trans (r2.mono (fun x hx => .inl (by simp [Fp.list] at hx ⊢; omega)))⟩
 ·have g0 : (q == 0) = false := by simp [k0]
  rw [if_neg k0]
  clear k0 hb hr hok hws hkey
  go_enter Try.func21, Try.ntmps21
  go_wp2_with (first
   | (go_at_call 52; refine ht.mono ?_; rintro e w' ⟨rfl, rfl⟩)
   | (go_at_call 51; refine hc.mono ?_; rintro e w1 ⟨rfl, h1, t1⟩; have H1 := ze.mk h1; have T1 := ze.mk t1; clear h1 t1))
  go_ret
  exact ⟨rfl, H1.o, T1.o⟩
end Go.Proofs.Ytkbhilhefnahpaa.Mem
namespace Go.Proofs.Ytkbhilhefnahpaa.Mem
open Go Go.RowKit Go.Proofs.Ytkbhilhefnahpaa.ML Go.Proofs.YtkbhilhefnahpaaW.PrintWords
set_option linter.unusedVariables false
set_option linter.unusedSimpArgs false
section
variable {ops : Array Oper} {rest : List Oper} {o : Oper} {a : Act} {Q : Exit → Act → World → Prop} {w : World} {b : Nat} {m : List (Int × Int)}
theorem lookU_some (hg : o.guard = none) (mo xo : Operand) (hop : o.op = Op.lookup 65 mo xo true) (hm : a.eval mo = .map (some b)) (h : IsM ek 3 w b m) (key : Int) (hx : a.eval xo = .int .i64 key) (hkey : oki key) (v : Int) (hv : get m key = some v)
  (hK : wpList Try.prog ops Q rest (a.put o.dst (.tuple #[.int .u64 v, .bool true])) w) : wpList Try.prog ops Q (o :: rest) a w :=
 wp_look_ok (x := ek) mt hg mo xo hop hm h key hx (Yq hkey) (by rw [hv]; exact hK)
theorem lookU_none (hg : o.guard = none) (mo xo : Operand) (hop : o.op = Op.lookup 65 mo xo true) (hm : a.eval mo = .map (some b)) (h : IsM ek 3 w b m) (key : Int) (hx : a.eval xo = .int .i64 key) (hkey : oki key) (hv : get m key = none)
  (hK : wpList Try.prog ops Q rest (a.put o.dst (.tuple #[.int .u64 0, .bool false])) w) : wpList Try.prog ops Q (o :: rest) a w :=
 wp_look_ok (x := ek) mt hg mo xo hop hm h key hx (Yq hkey) (by rw [hv]; exact hK)
end
theorem MS.has_iff (S : MS) (i : Int) : S.has i = true ↔ 0 ≤ i ∧ i < S.ws.length := by simp [MS.has]
/-- A word as it reads. -/
def Cell.now (c : Cell) : Int := c.loose.getD c.sure
def MS.read (S : MS) (i : Int) : Int := if S.has i then (S.at i).now else 0
set_option maxHeartbeats 400000 in
theorem Zq {w : World} {f : Fp} {S : MS} (h : IsMem w f S) (i : Int) (hi : oki i) : Calls Try.prog 32 #[ptr f, .int .i64 i] w fun e w' => e = .returned (.int .u64 (S.read i)) ∧ w = w' := by
 have ht := there_calls h i hi
 obtain ⟨A, cap, H, hr⟩ := h.facts
 have HR := ze.mk hr
 have c0 := H.c0
 have c1 := H.c1
 unfold MS.read
 by_cases hb : S.has i = true
 ·rw [hb] at ht
  rw [if_pos hb]
  obtain ⟨h0, h1⟩ := (S.has_iff i).1 hb
  obtain ⟨hA, hc, _⟩ := HR.o.cell i h0 h1
  subst hA
  have hg := S.Yh i h0 h1
  have HL := ze.mk h.loose
  have HI := ze.mk hi
  cases hl : (S.at i).loose with
  | some v =>
   rw [hl] at hg
   have hfin : (S.at i).now = v := by simp [Cell.now, hl]
   rw [hfin]
   have HG := ze.mk hg
   clear H hr h hb hl hg hfin hi h0 h1 hc
   go_enter Try.func32, Try.ntmps32
   go_wp2_with (first
    | (go_at_call 52; refine ht.mono ?_; rintro e w' ⟨rfl, rfl⟩)
    | (at_lookup; refine lookU_some rfl _ _ rfl rfl HL.o i rfl HI.o v HG.o ?_))
   go_ret
   exact ⟨rfl, rfl⟩
  | none =>
   rw [hl] at hg
   have hfin : (S.at i).now = (S.at i).sure := by simp [Cell.now, hl]
   rw [hfin]
   have HG := ze.mk hg
   clear H hr h hb hl hg hfin hi
   go_enter Try.func32, Try.ntmps32
   go_wp2_with (first
    | (go_at_call 52; refine ht.mono ?_; rintro e w' ⟨rfl, rfl⟩)
    | (at_lookup; refine lookU_none rfl _ _ rfl rfl HL.o i rfl HI.o HG.o ?_))
   go_ret
   exact ⟨rfl, rfl⟩
 ·have hb' : S.has i = false := by simpa using hb
  rw [hb'] at ht
  rw [if_neg hb]
  clear H hr h hb hb' hi
  go_enter Try.func32, Try.ntmps32
  go_wp2_with (first
   | (go_at_call 52; refine ht.mono ?_; rintro e w' ⟨rfl, rfl⟩))
  go_ret
  exact ⟨rfl, rfl⟩
end Go.Proofs.Ytkbhilhefnahpaa.Mem
namespace Go.Proofs.Ytkbhilhefnahpaa.Mem
open Go Go.RowKit Go.Proofs.Ytkbhilhefnahpaa.ML Go.Proofs.YtkbhilhefnahpaaW.PrintWords
set_option linter.unusedVariables false
set_option linter.unusedSimpArgs false
theorem MS.ext {S S' : MS} (hc : S.calls = S'.calls) (ht : S.til = S'.til) (hl : S.ws.length = S'.ws.length) (h : ∀ i : Int, 0 ≤ i → i < S.ws.length → S.at i = S'.at i) : S = S' := by
 obtain ⟨ws, c, t⟩ := S
 obtain ⟨ws', c', t'⟩ := S'
 simp only [] at hc ht hl
 subst hc ht
 have : ws = ws' := by
  refine List.ext_getElem hl fun j h1 h2 => ?_
  have := h (j : Int) (by omega) (by simp only []; omega)
  unfold MS.at at this
  simpa [List.getD_eq_getElem?_getD, h1, h2] using this
 rw [this]
/-! Fence -/
theorem pick_none {g : Cell → Option Int} : ∀ (r : List Cell) (i : Int), (∀ c ∈ r, g c = none) → pick g i r = []
 | [], _, _ => rfl
 | c :: r, i, h => by rw [pick, h c (by simp)]; exact pick_none r (i + 1) fun d hd => h d (by simp [hd])
abbrev IsRange (w : World) (b r n : Nat) (m : List (Int × Int)) (left : Lit → Bool) (cnt : Nat) : Prop := w.ranges Try.prog 3 (plainElem (H := Unit) Try.prog 22) b r n (ML.D ek m) left cnt
theorem range_key {left left' : Lit → Bool} {x : Int} (h : left' = fun z => left z && !z.sameKey (.int .i64 x)) (i : Int) : left' (.int .i64 i) = (left (.int .i64 i) && !(i == x)) := by
 subst h
 simp [Lit.sameKey, Bool.beq_eq_decide_eq]
theorem range_get {m : List (Int × Int)} {x c : Int} (h : ∀ zd, (ML.D ek m).atKey (.int .i64 x) zd = .lit (.int .u64 c)) : get m x = some c := by
 have h0 := h (.lit (.int .u64 0))
 have h1 := h (.lit (.int .u64 1))
 have e0 := D_get ek m x 0
 have e1 := D_get ek m x 1
 cases hg : get m x with
 | none =>
  rw [hg] at e0 e1
  have k0 := e0.symm.trans h0
  have k1 := e1.symm.trans h1
  simp only [Option.getD_none] at k0 k1
  injection k0 with k0
  injection k1 with k1
  injection k0 with _ k0
  injection k1 with _ k1
  omega
 | some v =>
  rw [hg] at e0
  have k0 := e0.symm.trans h0
  simp only [Option.getD_some] at k0
  injection k0 with k0
  injection k0 with _ k0
  rw [k0]
theorem Turn.grown {b : Nat} {w w' : World} (h : Turn [b] w w') : w.grownBy w' (some b) := ⟨h.os, h.tape, h.output, h.size, fun k hk hn => h.block k hk (by simpa using hn)⟩
end Go.Proofs.Ytkbhilhefnahpaa.Mem
namespace Go.Proofs.Ytkbhilhefnahpaa.Mem
open Go Go.RowKit Go.Proofs.Ytkbhilhefnahpaa.ML Go.Proofs.YtkbhilhefnahpaaW.PrintWords Go.Proofs.YtkbhilhefnahpaaW.PrintLast Go.Proofs.YtkbhilhefnahpaaW.PrintMore Go.Proofs.Ytkbhilhefnahpaa.Print
set_option linter.unusedVariables false
set_option linter.unusedSimpArgs false
attribute [local go_sem] Zd Zc
theorem reps_ints {q : IntKind} {xs : List Int} {cs : List Value} (h : Reps (fun x c => c = [Value.int q x]) 1 xs cs) : cs = xs.map (Value.int q) := by
 obtain ⟨h1, h2⟩ := h
 refine List.ext_getElem? fun j => ?_
 rw [List.getElem?_map]
 rcases Nat.lt_or_ge j xs.length with hl | hl
 ·have e := List.getElem?_eq_getElem hl
  have := h2 j _ e
  rw [Nat.mul_one] at this
  rw [e]
  have hd : (cs.drop j).take 1 = [Value.int q xs[j]] := this
  have : ((cs.drop j).take 1)[0]? = some (Value.int q xs[j]) := by rw [hd]; rfl
  rw [List.getElem?_take, if_pos (by omega), List.getElem?_drop, Nat.add_zero] at this
  exact this
 ·rw [List.getElem?_eq_none hl, List.getElem?_eq_none (by omega)]
  rfl
/-- A row of numbers that is one's own. -/
theorem Xo {q : IntKind} {e : Nat} {w : World} {base : Nat} {ok : Nat → Prop} {v : Value} {xs : List Int} (h : Kd.R (Kd.int q) e w base ok v xs) : w.ownsRow base e 1 v xs.length (xs.map (Value.int q)) := by
 obtain ⟨_, inner, ho, hr⟩ := h
 rw [← reps_ints hr]
 exact ho
theorem R_of_row {q : IntKind} {e : Nat} {w : World} {base : Nat} {v : Value} {xs : List Int} (h : w.ownsRow base e 1 v xs.length (xs.map (Value.int q))) : Kd.R (Kd.int q) e w base (fun _ => True) v xs :=
 Kd.Xr (enc := Value.int q) (h1 := fun _ => rfl) h (fun _ _ => trivial)
theorem own_set {w : World} {base e n cap g : Nat} {xs : List Value} (h : w.ownsRow base e 1 (.slice (some ⟨g, 0, none⟩) n cap) n xs) {i : Nat} (hi : i < n) (u : Value) : (w.setCell ⟨g, i, none⟩ u).ownsRow base e 1 (.slice (some ⟨g, 0, none⟩) n cap) n (xs.set i u) := by
 obtain ⟨h1, h2⟩ := h
 rcases h2 with ⟨h2, _⟩ | ⟨g', cap', cur, hv, hb, hh, h3, h4, h5, h6⟩
 ·cases h2
 ·injection hv with hv _ hc
  injection hv with hv
  injection hv with hv
  subst hv hc
  refine ⟨by simpa using h1, .inr ⟨g, cap, _, rfl, hb, zZ u hh, h3, h4, by simpa using h5, ?_⟩⟩
  rw [← h6]
  simp [List.take_set]
theorem IsRow.readC {w : World} {bs n cap : Nat} {A : Option Addr} {S : MS} (h : IsRow w bs A n cap S.sures) : Kd.C (Kd.int .u64) w A n (S.ws.map Cell.sure) := by
 have hl : S.ws.length = n := by have := h.2.2.1; simpa [MS.sures] using this
 refine ⟨by simpa using hl, Nat.le_trans h.1 h.2.1, fun h0 => ⟨⟨bs, 0, none⟩, (h.cell 0 (by omega) (by omega)).1, fun j p hj => ⟨[.int .u64 p], rfl, rfl, fun i u hi => ?_⟩⟩⟩
 rw [List.getElem?_map] at hj
 rcases Nat.lt_or_ge j S.ws.length with hlt | hge
 ·have hc := (h.cell (j : Int) (by omega) (by omega)).2.1
  rw [List.getElem?_eq_getElem hlt] at hj
  simp at hj
  have hi0 : i = 0 := by
   have := (List.getElem?_eq_some_iff.1 hi).1
   simp at this
   exact this
  subst hi0
  simp at hi
  subst hi
  have e : (S.at (j : Int)).sure = p := by
   unfold MS.at
   rw [List.getD_eq_getElem?_getD]
   simp [hlt, hj]
  rw [e] at hc
  have ea : Addr.add ⟨bs, 0, none⟩ (j * (Kd.int .u64).sz + 0) = ⟨bs, j, none⟩ := by
   show Addr.add ⟨bs, 0, none⟩ (j * 1 + 0) = _
   unfold Addr.add
   split
   ·have : j = 0 := by omega
    subst this; rfl
   ·simp
  rw [ea]
  simpa using hc
 ·rw [List.getElem?_eq_none hge] at hj
  cases hj
/-- A memory with words. -/
def loadS (l : List Int) : MS := ⟨(l.take 4096).map fun v => ⟨v, none, none⟩, 0, -1⟩
theorem ZG (l : List Int) : (loadS l).ws.length = min l.length 4096 := by simp [loadS]; omega
theorem loadS_ok {l : List Int} (h : ∀ v ∈ l, okw v) : (loadS l).Ok := by
 refine ⟨by rw [ZG]; omega, fun c hc => ?_, (by show oki 0; unfold oki; omega), (by show oki (-1); unfold oki; omega)⟩
 simp only [loadS, List.mem_map] at hc
 obtain ⟨v, hv, rfl⟩ := hc
 exact ⟨h v (List.mem_of_mem_take hv), (fun _ e => by cases e), (fun _ e => by cases e)⟩
theorem loadS_loose (l : List Int) : (loadS l).Zn = [] := pick_none _ _ fun c hc => by
 simp only [loadS, List.mem_map] at hc
 obtain ⟨v, hv, rfl⟩ := hc
 rfl
theorem loadS_way (l : List Int) : (loadS l).wayM = [] := pick_none _ _ fun c hc => by
 simp only [loadS, List.mem_map] at hc
 obtain ⟨v, hv, rfl⟩ := hc
 rfl
theorem heap_new (w : World) (o : Obj) : (w.alloc o).heap[w.heap.size]? = some o := (MapKept.heap_alloc w o).1
theorem yN (w : World) (o : Obj) {i : Nat} (h : i < w.heap.size) : (w.alloc o).heap[i]? = w.heap[i]? := Below.heap_alloc w o i h
/-- The world of a new memory. -/
theorem made_mem {w : World} {base : Nat} {l : List Int} {A : Option Addr} {n cap : Nat} (hl : ∀ v ∈ l, okw v) (hn : n = min l.length 4096) (h : w.ownsRow base 22 1 (.slice A n cap) n ((l.take 4096).map (Value.int .u64))) (hb : base < w.heap.size ∨ n = 0) :
  ∃ f : Fp, f.p = w.heap.size + 2 ∧ (∀ b ∈ f.list, base ≤ b ∨ w.heap.size ≤ b) ∧ IsMem (((w.alloc (.map #[] 0)).alloc (.map #[] 0)).alloc (.cells #[.slice A n cap, .map (some w.heap.size), .map (some (w.heap.size + 1)), .int .i64 0, .int .i64 (-1)] 67 (0, 0))) f (loadS l) := by
 obtain ⟨h1, h2⟩ := h
 have s1 : (w.alloc (.map #[] 0)).heap.size = w.heap.size + 1 := by simp
 have s2 : ((w.alloc (.map #[] 0)).alloc (.map #[] 0)).heap.size = w.heap.size + 2 := by simp
 have key : ∀ bs, bs < w.heap.size + 3 → (∀ b ∈ [w.heap.size + 2, bs, w.heap.size, w.heap.size + 1], base ≤ b ∨ w.heap.size ≤ b) → IsRow (((w.alloc (.map #[] 0)).alloc (.map #[] 0)).alloc (.cells #[.slice A n cap, .map (some w.heap.size), .map (some (w.heap.size + 1)), .int .i64 0, .int .i64 (-1)] 67 (0, 0))) bs A n cap (loadS l).sures →
   ∃ f : Fp, f.p = w.heap.size + 2 ∧ (∀ b ∈ f.list, base ≤ b ∨ w.heap.size ≤ b) ∧ IsMem (((w.alloc (.map #[] 0)).alloc (.map #[] 0)).alloc (.cells #[.slice A n cap, .map (some w.heap.size), .map (some (w.heap.size + 1)), .int .i64 0, .int .i64 (-1)] 67 (0, 0))) f (loadS l) := by
  intro bs hbs hall hrow
  refine ⟨⟨w.heap.size + 2, bs, w.heap.size, w.heap.size + 1⟩, rfl, hall, ⟨loadS_ok hl, ⟨A, cap, ?_, ?_⟩, ?_, ?_, by simp, by simp; omega⟩⟩
  ·rw [ZG, ← hn]
   have := heap_new ((w.alloc (.map #[] 0)).alloc (.map #[] 0)) (.cells #[.slice A n cap, .map (some w.heap.size), .map (some (w.heap.size + 1)), .int .i64 0, .int .i64 (-1)] 67 (0, 0))
   rw [s2] at this
   exact this
  ·rw [ZG, ← hn]; exact hrow
  ·rw [loadS_loose]
   refine IsM.block (w := w.alloc (.map #[] 0)) (IsM.made w) ?_
   rw [yN _ _ (by rw [s2]; simp), yN _ _ (by rw [s1]; simp)]
  ·rw [loadS_way]
   have hm := IsM.made (x := ek) (k := 3) (w.alloc (.map #[] 0))
   rw [s1] at hm
   refine IsM.block hm ?_
   rw [yN _ _ (by rw [s2]; simp)]
 have hs : (loadS l).sures = (l.take 4096).map (Value.int .u64) := by
  have : ((fun c : Cell => Value.int .u64 c.sure) ∘ fun v => (⟨v, none, none⟩ : Cell)) = Value.int .u64 := rfl
  simp [MS.sures, loadS, this]
 rcases h2 with ⟨h2, h3⟩ | ⟨g, cap', cur, hv, hbg, hh, h3, h4, h5, h6⟩
 ·injection h2 with hA _ hc
  subst h3 hA hc
  refine key w.heap.size (by omega) (fun b hb => by simp at hb; omega) ⟨Nat.le_refl _, by unfold maxLen; omega, by rw [hs, h1], fun h => absurd h (by omega)⟩
 ·injection hv with hA _ hc
  subst hA hc
  have hg := (Array.getElem?_eq_some_iff.1 hh).1
  refine key g (by omega) (fun b hb => by simp at hb; omega) ⟨h3, h4, by rw [hs, h1]; simp, fun h => ⟨rfl, cur, ?_, by omega, by rw [hs, ← h6]; simp⟩⟩
  rw [yN _ _ (by rw [s2]; omega), yN _ _ (by rw [s1]; omega), yN _ _ (by omega)]
  exact hh
set_option maxHeartbeats 1000000 in
set_option maxRecDepth 100000 in
theorem Load_calls {w : World} (A0 : Option Addr) (c0 : Nat) (l : List Int) (hr0 : Kd.C (Kd.int .u64) w A0 l.length l) (hc0 : l.length ≤ c0) (hl : ∀ v ∈ l, okw v) :
  Calls Try.prog 7 #[.slice A0 l.length c0] w fun e w' => ∃ f : Fp, e = .returned (ptr f) ∧ IsMem w' f (loadS l) ∧ (∀ b ∈ f.list, w.heap.size ≤ b) ∧ Below w.heap.size w w' := by
 obtain ⟨n, hn⟩ : ∃ n, n = min l.length 4096 := ⟨_, rfl⟩
 have ht : (l.take 4096).length = n := by rw [hn]; simp; omega
 have hC : Kd.C (Kd.int .u64) w A0 (l.take 4096).length (l.take 4096) := by
  obtain ⟨h1, h2, h3⟩ := hr0
  refine ⟨rfl, by omega, fun h0 => ?_⟩
  obtain ⟨ad, hA, h4⟩ := h3 (by omega)
  refine ⟨ad, hA, fun j p hj => h4 j p ?_⟩
  rw [List.getElem?_take] at hj
  split at hj
  ·exact hj
  ·cases hj
 have hcl := slices_Clone_uint64_uint64.calls A0 c0 (l.take 4096) (l.take 4096) w hC (by omega) (by unfold slices_Clone_uint64_uint64.f; rw [if_pos (by omega)])
 rw [ht] at hcl
 have fin : ∀ (v0 : Value) (w1 : World), Kd.R (Kd.int .u64) 22 w1 w.heap.size (fun _ => True) v0 (l.take 4096) → Below w.heap.size w w1 → ∃ A cap, v0 = .slice A n cap ∧ ∃ f : Fp, f.p = w1.heap.size + 2 ∧ (∀ b ∈ f.list, w.heap.size ≤ b) ∧ IsMem (((w1.alloc (.map #[] 0)).alloc (.map #[] 0)).alloc (.cells #[.slice A n cap, .map (some w1.heap.size), .map (some (w1.heap.size + 1)), .int .i64 0, .int .i64 (-1)] 67 (0, 0))) f (loadS l) := by
  intro v0 w1 hR hb
  obtain ⟨A, cap, rfl⟩ := Kd.zY hR
  have hrow := Xo hR
  rw [ht] at hrow ⊢
  have hs := hb.size
  have hor : w.heap.size < w1.heap.size ∨ n = 0 := by
   rcases hrow.2 with ⟨_, h0⟩ | ⟨g, cap', cur, hv, hbg, hh, _⟩
   ·exact .inr h0
   ·have := (Array.getElem?_eq_some_iff.1 hh).1; omega
  obtain ⟨f, f1, f2, f3⟩ := made_mem hl hn hrow hor
  exact ⟨A, cap, rfl, f, f1, fun b hb' => by have := f2 b hb'; omega, f3⟩
 have HF := ze.mk fin
 by_cases hle : l.length ≤ 4096
 ·obtain rfl : n = l.length := by omega
  have g0 : (l.length : Int) ≤ 4096 := by omega
  have HC := ze.mk hcl
  clear hn hC hcl ht hr0 hle fin
  have hmm := @run_makeMap Try.prog
  go_enter Try.func7, Try.ntmps7
  go_wp2_with (first
   | (go_at_call 33; refine HC.o.mono ?_; rintro e w1 ⟨v0, rfl, hR, hb⟩; obtain ⟨A, cap, rfl, f, f1, f2, f3⟩ := HF.o v0 w1 hR hb; have F1 := ze.mk f1; have F2 := ze.mk f2; have F3 := ze.mk f3; have HB := ze.mk hb; clear hR hb f1 f2 f3))
  go_ret
  exact ⟨f, by simp only [ptr, F1.o]; rfl, F3.o, F2.o, ((HB.o.alloc HB.o.size _).alloc (by have := HB.o.size; simp; omega) _).alloc (by have := HB.o.size; simp; omega) _⟩
 ·obtain rfl : n = 4096 := by omega
  have g0 : ¬ (l.length : Int) ≤ 4096 := by omega
  have g1 : 4096 ≤ c0 := by omega
  have HC := ze.mk hcl
  clear hn hC hcl ht hr0 hle fin
  have hmm := @run_makeMap Try.prog
  go_enter Try.func7, Try.ntmps7
  go_wp2_with (first
   | (go_at_call 33; refine HC.o.mono ?_; rintro e w1 ⟨v0, rfl, hR, hb⟩; obtain ⟨A, cap, rfl, f, f1, f2, f3⟩ := HF.o v0 w1 hR hb; have F1 := ze.mk f1; have F2 := ze.mk f2; have F3 := ze.mk f3; have HB := ze.mk hb; clear hR hb f1 f2 f3))
  go_ret
  exact ⟨f, by simp only [ptr, F1.o]; rfl, F3.o, F2.o, ((HB.o.alloc HB.o.size _).alloc (by have := HB.o.size; simp; omega) _).alloc (by have := HB.o.size; simp; omega) _⟩
theorem Yz (A0 : Option Addr) (c0 : Nat) (m : Int) (w' : World) (l : List Int) (hr0 : Kd.C (Kd.int .u64) w' A0 m.toNat l) (hc0 : m.toNat ≤ c0) (hl : ∀ v ∈ l, okw v) :
  Calls Try.prog 7 #[.slice A0 m.toNat c0] w' fun e w'' => ∃ f : Fp, e = .returned (ptr f) ∧ IsMem w'' f (loadS l) ∧ (∀ b ∈ f.list, w'.heap.size ≤ b) ∧ Below w'.heap.size w' w'' := by
 have h1 := hr0.1
 rw [← h1] at hr0 hc0 ⊢
 exact Load_calls A0 c0 l hr0 hc0 hl
/-- A memory of n words. -/
def newS (n : Int) : MS := loadS (List.replicate (min (max n 0) 4096).toNat 0)
set_option maxHeartbeats 1000000 in
set_option maxRecDepth 100000 in
theorem YX (w : World) (n : Int) (hn : oki n) :
  Calls Try.prog 27 #[.int .i64 n] w fun e w' => ∃ f : Fp, e = .returned (ptr f) ∧ IsMem w' f (newS n) ∧ (∀ b ∈ f.list, w.heap.size ≤ b) ∧ Below w.heap.size w w' := by
 unfold newS oki at *
 obtain ⟨m, hm⟩ : ∃ m, min (max n 0) 4096 = m := ⟨_, rfl⟩
 rw [hm]
 by_cases h0 : n < 0
 ·obtain rfl : m = 0 := by omega
  have g0 : ¬ (0 : Int) ≤ n := by omega
  clear hm hn
  go_enter Try.func27, Try.ntmps27
  go_wp2_with (first
   | ((with_reducible refine zC (N := 6) rfl ?_); refine Kd.Yl (Kd.int .u64) _ 22 rfl (N := 6) rfl 26 _ _ rfl 0 rfl rfl Try.underlying26 (.int .u64 0) 8 YT rfl (by decide) (by omega) 0 (ok := fun _ => True) (okp := fun _ => True) rfl (fun _ hk => hk) trivial (by omega) (by omega) (Below.refl _ _) (Nat.le_refl _) ?_; intro v0 w1 hR hb hg hn; obtain ⟨A, cap, hv, hcap, hC⟩ := Kd.Yk hR; rw [List.length_replicate] at hv hcap hC; subst hv; have HR := ze.mk hC; have HB := ze.mk hb; have HC := ze.mk hcap; clear hR hb hg hn hC hcap)
   | (go_at_call 7; refine (Yz A cap 0 w1 _ HR.o HC.o (fun v hv => by rw [List.eq_of_mem_replicate hv]; unfold okw; omega)).mono ?_; rintro e w2 ⟨f, rfl, f1, f2, f3⟩; have F1 := ze.mk f1; have F2 := ze.mk f2; have F3 := ze.mk f3; clear f1 f2 f3))
  go_ret
  exact ⟨f, rfl, F1.o, (fun b hb => Nat.le_trans HB.o.size (F2.o b hb)), HB.o.trans (F3.o.mono HB.o.size)⟩
 ·have h0' : 0 ≤ n := by omega
  clear h0
  by_cases h1 : n ≤ 4096
  ·obtain rfl : m = n := by omega
   clear hm hn
   go_enter Try.func27, Try.ntmps27
   go_wp2_with (first
    | ((with_reducible refine zC (N := 6) rfl ?_); refine Kd.Yl (Kd.int .u64) _ 22 rfl (N := 6) rfl 26 _ _ rfl m rfl rfl Try.underlying26 (.int .u64 0) 8 YT rfl (by decide) (by omega) 0 (ok := fun _ => True) (okp := fun _ => True) rfl (fun _ hk => hk) trivial (by omega) (by omega) (Below.refl _ _) (Nat.le_refl _) ?_; intro v0 w1 hR hb hg hn; obtain ⟨A, cap, hv, hcap, hC⟩ := Kd.Yk hR; rw [List.length_replicate] at hv hcap hC; subst hv; have HR := ze.mk hC; have HB := ze.mk hb; have HC := ze.mk hcap; clear hR hb hg hn hC hcap)
    | (go_at_call 7; refine (Yz A cap m w1 _ HR.o HC.o (fun v hv => by rw [List.eq_of_mem_replicate hv]; unfold okw; omega)).mono ?_; rintro e w2 ⟨f, rfl, f1, f2, f3⟩; have F1 := ze.mk f1; have F2 := ze.mk f2; have F3 := ze.mk f3; clear f1 f2 f3))
   go_ret
   exact ⟨f, rfl, F1.o, (fun b hb => Nat.le_trans HB.o.size (F2.o b hb)), HB.o.trans (F3.o.mono HB.o.size)⟩
  ·obtain rfl : m = 4096 := by omega
   clear hm hn
   go_enter Try.func27, Try.ntmps27
   go_wp2_with (first
    | ((with_reducible refine zC (N := 6) rfl ?_); refine Kd.Yl (Kd.int .u64) _ 22 rfl (N := 6) rfl 26 _ _ rfl 4096 rfl rfl Try.underlying26 (.int .u64 0) 8 YT rfl (by decide) (by omega) 0 (ok := fun _ => True) (okp := fun _ => True) rfl (fun _ hk => hk) trivial (by omega) (by omega) (Below.refl _ _) (Nat.le_refl _) ?_; intro v0 w1 hR hb hg hn; obtain ⟨A, cap, hv, hcap, hC⟩ := Kd.Yk hR; rw [List.length_replicate] at hv hcap hC; subst hv; have HR := ze.mk hC; have HB := ze.mk hb; have HC := ze.mk hcap; clear hR hb hg hn hC hcap)
    | (go_at_call 7; refine (Yz A cap 4096 w1 _ HR.o HC.o (fun v hv => by rw [List.eq_of_mem_replicate hv]; unfold okw; omega)).mono ?_; rintro e w2 ⟨f, rfl, f1, f2, f3⟩; have F1 := ze.mk f1; have F2 := ze.mk f2; have F3 := ze.mk f3; clear f1 f2 f3))
   go_ret
   exact ⟨f, rfl, F1.o, (fun b hb => Nat.le_trans HB.o.size (F2.o b hb)), HB.o.trans (F3.o.mono HB.o.size)⟩
end Go.Proofs.Ytkbhilhefnahpaa.Mem
namespace Go.Proofs.Ytkbhilhefnahpaa.Mem
open Go Go.RowKit Go.Proofs.Ytkbhilhefnahpaa.ML Go.Proofs.YtkbhilhefnahpaaW.PrintWords Go.Proofs.YtkbhilhefnahpaaW.PrintLast Go.Proofs.YtkbhilhefnahpaaW.PrintMore Go.Proofs.Ytkbhilhefnahpaa.Print
set_option linter.unusedVariables false
set_option linter.unusedSimpArgs false
def MS.image (S : MS) : List Int := S.ws.map Cell.now
def MS.imgTo (S : MS) (left : Int → Bool) : List Value := S.ws.mapIdx fun j c => .int .u64 (if left (j : Int) then c.sure else c.now)
theorem MS.YU (S : MS) (left : Int → Bool) (j : Nat) : (S.imgTo left)[j]? = S.ws[j]?.map fun c => .int .u64 (if left (j : Int) then c.sure else c.now) := by
 simp [MS.imgTo, List.getElem?_mapIdx]
theorem MS.imgTo_start (S : MS) (left : Int → Bool) (h : ∀ i, left i = (get S.Zn i).isSome) : S.imgTo left = S.sures := by
 refine List.ext_getElem? fun j => ?_
 rw [S.YU, MS.sures, List.getElem?_map]
 rcases Nat.lt_or_ge j S.ws.length with hl | hl
 ·have hj := S.Yh (j : Int) (by omega) (by omega)
  rw [List.getElem?_eq_getElem hl]
  have e : S.at (j : Int) = S.ws[j] := by unfold MS.at; rw [List.getD_eq_getElem?_getD]; simp [hl]
  rw [e] at hj
  simp only [Option.map_some, h, hj, Cell.now]
  cases hc : S.ws[j].loose <;> simp
 ·rw [List.getElem?_eq_none hl]; rfl
theorem MS.imgTo_end (S : MS) (left : Int → Bool) (h : ∀ i, left i = false) : S.imgTo left = S.image.map (Value.int .u64) := by
 refine List.ext_getElem? fun j => ?_
 rw [S.YU, MS.image, List.map_map, List.getElem?_map]
 simp [h, Function.comp_def]
theorem MS.imgTo_step (S : MS) (left left' : Int → Bool) {k v : Int} (h0 : 0 ≤ k) (h1 : k < S.ws.length) (hv : (S.at k).loose = some v) (hl' : ∀ i, left' i = (left i && !(i == k))) : (S.imgTo left).set k.toNat (.int .u64 v) = S.imgTo left' := by
 refine List.ext_getElem? fun j => ?_
 rw [List.getElem?_set, S.YU, S.YU, hl']
 by_cases hj : k.toNat = j
 ·have hlt : j < S.ws.length := by omega
  have e : S.at k = S.ws[j] := by unfold MS.at; rw [List.getD_eq_getElem?_getD, hj]; simp [hlt]
  rw [if_pos hj, if_pos (by simp [MS.imgTo]; omega), List.getElem?_eq_getElem hlt]
  rw [e] at hv
  have : ((j : Int) == k) = true := by simp; omega
  simp [this, Cell.now, hv]
 ·rw [if_neg hj]
  have : ((j : Int) == k) = false := by simp; omega
  simp [this]
theorem MS.image_len (S : MS) : S.image.length = S.ws.length := by simp [MS.image]
set_option maxHeartbeats 2000000 in
theorem Image_calls {w : World} {f : Fp} {S : MS} (h : IsMem w f S) : Calls Try.prog 24 #[ptr f] w fun e w' => ∃ v : Value, e = .returned v ∧ Kd.R (Kd.int .u64) 22 w' w.heap.size (fun _ => True) v S.image ∧ Below w.heap.size w w' := by
 obtain ⟨A, cap, HF, hrow⟩ := h.facts
 have c0 := HF.c0
 have hlen := h.ok.len
 have hcl := slices_Clone_uint64_uint64.calls A cap (S.ws.map Cell.sure) (S.ws.map Cell.sure) w (by rw [List.length_map]; exact hrow.readC) (by rw [List.length_map]; exact hrow.1) (by unfold slices_Clone_uint64_uint64.f; rw [if_pos (by simp; omega)])
 rw [List.length_map] at hcl
 have HC := ze.mk hcl
 have H := ze.mk h
 clear HF hrow hcl hlen h
 go_enter Try.func24, Try.ntmps24
 go_wp2_with (first
  | (go_at_call 33; refine HC.o.mono ?_; rintro e w1 ⟨v0, rfl, hR, hb⟩; have hm := H.o.below hb; obtain ⟨A1, cap1, hv⟩ := Kd.zY hR; rw [List.length_map] at hv; subst hv; obtain ⟨A2, cap2, HF, _⟩ := hm.facts; have c1 := HF.c1; have HM := ze.mk hm; have HR := ze.mk hR; have HB := ze.mk hb; clear hm hR hb HF)
  | (at_range; refine wpList_range_own _ rfl _ 65 rfl 3 22 mt.keyed mt.ht _ f.bl _ _ rfl HM.o.loose ?_; intro w2 hrg0 hg0 hs0))
 obtain ⟨r, hrr⟩ : ∃ r, w1.heap.size = r := ⟨_, rfl⟩
 have hrow := Xo HR.o
 rw [List.length_map, List.map_map] at hrow
 have hl : ∀ b ∈ f.list, b < w.heap.size := H.o.lts
 have hbr : w.heap.size ≤ r := by rw [← hrr]; exact HB.o.size
 have hown : ∀ g, (Value.slice A1 S.ws.length cap1).ownBlock = some g → g < r := by rw [← hrr]; exact fun g hg => own_lt hrow g hg
 rw [hrr] at hrg0 ⊢
 go_frame
 have RG := ze.mk hrg0
 have G0 := ze.mk hg0
 have HL := ze.mk hl
 have HRow := ze.mk hrow
 have HBr := ze.mk hbr
 have HO := ze.mk hown
 clear hrg0 hg0 hs0 hl hrow hbr hown hrr c1 c0
 go_loopw [] (fun wr => ∃ (left : Lit → Bool) (cnt : Nat), IsRange wr f.bl r S.Zn.length S.Zn left cnt ∧ wr.ownsRow w.heap.size 22 1 (.slice A1 S.ws.length cap1) S.ws.length (S.imgTo fun j => left (.int .i64 j)) ∧ Below w.heap.size w wr) (fun wr => wr.rangeLeft f.bl r)
 case atStart =>
  refine ⟨_, _, RG.o, ?_, HB.o.grown G0.o HB.o.size (fun k hk => by cases hk)⟩
  rw [MS.imgTo_start _ _ fun i => D_has ek S.Zn i]
  have : (S.ws.map ((Value.int .u64) ∘ Cell.sure)) = S.sures := rfl
  rw [this] at HRow
  exact own_move HRow.o fun k hk => G0.o.block k (own_lt HRow.o k hk) (by simp)
 case round =>
  obtain ⟨left, cnt, hrg, hrow, hbw⟩ := hrel
  have HG := ze.mk hrg
  have HW := ze.mk hrow
  have HB2 := ze.mk hbw
  clear hrg hrow hbw
  go_wp2_with (first
   | (at_next; refine wpList_next_ranges_ii _ rfl _ rfl 3 22 .i64 .u64 mt.keyed mt.hk Try.underlying22 f.bl r _ _ _ _ rfl HG.o ?_ ?_))
  ·intro hc0 hl0
   have HE := ze.mk hl0
   clear hc0 hl0
   go_wp2
   go_ret
   have hrow := HW.o
   rw [MS.imgTo_end S (fun j => left (.int .i64 j)) fun i => HE.o _] at hrow
   refine ⟨_, rfl, R_of_row ?_, HB2.o⟩
   rw [MS.image_len]
   exact hrow
  ·intro x c w2 cnt2 hwx hwc hlx hat hrg2 hlt hg2 hs2 hen
   have hget := range_get hat
   have hin : 0 ≤ x ∧ x < S.ws.length := by
    by_cases hx : 0 ≤ x ∧ x < S.ws.length
    ·exact hx
    ·rw [MS.ZR _ _ (by omega)] at hget; cases hget
   rw [MS.Yh _ _ hin.1 hin.2] at hget
   have hr2 := own_move HW.o (w1 := w2) fun k hk => hg2.block k (own_lt HW.o k hk) (by have := HO.o k hk; simp; omega)
   have hb2 : Below w.heap.size w w2 := HB2.o.grown hg2 HB2.o.size (fun k hk => by cases hk; exact HBr.o)
   obtain ⟨g, hA, hcell, hfz⟩ : ∃ g, A1 = some ⟨g, 0, none⟩ ∧ (∃ u, w2.cell? ⟨g, x.toNat, none⟩ = some u) ∧ w2.frozen? ⟨g, x.toNat, none⟩ = false := by
    rcases hr2.2 with ⟨_, h0⟩ | ⟨g, cap', cur, hv, hbg, hh, h3, h4, h5, h6⟩
    ·omega
    ·injection hv with hA _ hc
     subst hc
     exact ⟨g, hA, ⟨cur[x.toNat]'(by omega), cell_of hh (by rw [Array.getElem?_eq_getElem])⟩, Zx hh⟩
   subst hA
   obtain ⟨u, hcell⟩ := hcell
   have hgr : g < r := HO.o g rfl
   have hgw : w.heap.size ≤ g := by
    rcases hr2.2 with ⟨h, _⟩ | ⟨g', cap', cur, hv, hbg, _⟩
    ·cases h
    ·injection hv with hA _ hc
     injection hA with hA
     injection hA with hA
     omega
   have hr3 := own_set hr2 (i := x.toNat) (by omega) (.int .u64 c)
   have hst := MS.imgTo_step S (fun j => left (.int .i64 j)) (fun j => (left (.int .i64 j) && !(Lit.int .i64 j).sameKey (.int .i64 x))) hin.1 hin.2 hget (fun i => range_key rfl i)
   rw [hst] at hr3
   have t3 := Turn.setCell w2 ⟨g, x.toNat, none⟩ (.int .u64 c)
   have hrg3 : IsRange (w2.setCell ⟨g, x.toNat, none⟩ (.int .u64 c)) f.bl r S.Zn.length S.Zn _ cnt2 := World.ranges.kept hrg2 t3.grown (by have := HL.o f.bl (by simp [Fp.list]); simp; omega) (by simp; omega)
   have hb3 : Below w.heap.size w (w2.setCell ⟨g, x.toNat, none⟩ (.int .u64 c)) := hb2.setCell hgw _
   have R3 := ze.mk hrg3
   have W3 := ze.mk hr3
   have B3 := ze.mk hb3
   have HT := ze.mk hlt
   have hx0 : 0 ≤ x := hin.1
   have hx1 : x < S.ws.length := hin.2
   clear hget hin hr2 hb2 hr3 hst t3 hrg3 hb3 hlt hlx hat hrg2 hg2 hs2 hgr hgw hwx hwc
   go_wp2
   go_roundw
   case rel => exact ⟨_, cnt2, R3.o, W3.o, B3.o⟩
   case measure => rw [R3.o.left_eq, HG.o.left_eq]; exact HT.o
end Go.Proofs.Ytkbhilhefnahpaa.Mem
