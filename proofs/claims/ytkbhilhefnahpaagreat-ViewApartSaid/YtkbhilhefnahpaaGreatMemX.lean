/- MemA, MemB, MemC, MemD, MemE, MemF, MemG in one text. -/
import Derived.Test.YtkbhilhefnahpaaGreatPrint0
import Derived.Test.YtkbhilhefnahpaaGreatHslicesCloneU64
import Derived.Test.YtkbhilhefnahpaaGreatMapL
import Derived.Handy
import Derived.WalkSpells
namespace Go.Proofs.YtkbhilhefnahpaaGreat.Mem
open Go Go.RowKit Go.Proofs.YtkbhilhefnahpaaGreat.ML Go.Proofs.YtkbhilhefnahpaaGreatW.PrintWords
set_option linter.unusedVariables false
set_option linter.unusedSimpArgs false
theorem mt : MT Tryz.prog 55 3 34 := ⟨Tryz.underlying55, Tryz.underlying3⟩
theorem zrunU (w : World) : (zeroValue 34).run Tryz.prog w = .ok (.int .u64 0) w := by kernel_rfl
def ek : EK Tryz.prog 34 Int := ekInt Tryz.underlying34 zrunU
/-- But for the blocks L nothing has turned. -/
structure Turn (L : List Nat) (w w' : World) : Prop where
 os : w'.os = w.os
 tape : w'.tape = w.tape
 output : w'.output = w.output
 size : w.heap.size ≤ w'.heap.size
 block : ∀ k, k < w.heap.size → k ∉ L → w'.heap[k]? = w.heap[k]?
theorem Turn.refl (L : List Nat) (w : World) : Turn L w w := ⟨rfl, rfl, rfl, Nat.le_refl _, fun _ _ _ => rfl⟩
theorem Turn.trans {L : List Nat} {a b c : World} (h : Turn L a b) (k : Turn L b c) : Turn L a c :=
 ⟨k.os.trans h.os, k.tape.trans h.tape, k.output.trans h.output, Nat.le_trans h.size k.size, fun i hi hn => (k.block i (Nat.lt_of_lt_of_le hi h.size) hn).trans (h.block i hi hn)⟩
theorem Turn.mono {L L' : List Nat} {w w' : World} (h : Turn L w w') (hL : ∀ x ∈ L, x ∈ L' ∨ w.heap.size ≤ x) : Turn L' w w' :=
 ⟨h.os, h.tape, h.output, h.size, fun k hk hn => h.block k hk fun hm => (hL k hm).elim hn (by omega)⟩
theorem Turn.below {L : List Nat} {w w' : World} (h : Turn L w w') {B : Nat} (hB : B ≤ w.heap.size) (hL : ∀ x ∈ L, B ≤ x) : Below B w w' :=
 ⟨h.os, h.tape, h.output, h.size, fun k hk => h.block k (by omega) fun hm => by have := hL k hm; omega⟩
theorem Turn.of_below {w w' : World} (h : Below w.heap.size w w') (L : List Nat) : Turn L w w' := ⟨h.os, h.tape, h.output, h.size, fun k hk _ => h.block k hk⟩
theorem Turn.Zt {w w' : World} {b : Nat} (h : w.grownBy w' (some b)) : Turn [b] w w' := ⟨h.os, h.tape, h.output, h.size, fun k hk hn => h.block k hk (by simpa using hn)⟩
theorem Turn.setCell (w : World) (a : Addr) (v : Value) : Turn [a.block] w (w.setCell a v) :=
 ⟨rfl, rfl, rfl, by simp [World.setCell], fun k hk hn => Below.heap_setCell w a v k (by simpa using hn)⟩
theorem Turn.drew (w : World) (L : List Nat) : Turn L w w.drew := ⟨rfl, rfl, rfl, Nat.le_refl _, fun _ _ _ => rfl⟩

structure Cell where
 sure : Int
 loose : Option Int
 way : Option Int
structure MS where
 ws : List Cell
 calls : Int
 til : Int
structure Fp where
 p : Nat
 bs : Nat
 bl : Nat
 bw : Nat
def Fp.list (f : Fp) : List Nat := [f.p, f.bs, f.bl, f.bw]
/-- The words of a map, by their places. -/
def pick (g : Cell → Option Int) : Int → List Cell → List (Int × Int)
 | _, [] => []
 | i, c :: r => match g c with
  | some v => (i, v) :: pick g (i + 1) r
  | none => pick g (i + 1) r
theorem pick_lo {g : Cell → Option Int} : ∀ (r : List Cell) (i : Int), ∀ y ∈ pick g i r, i ≤ y.1 ∧ y.1 < i + r.length
 | [], _, y, hy => by cases hy
 | c :: r, i, y, hy => by
  have ih := pick_lo (g := g) r (i + 1)
  unfold pick at hy
  split at hy
  ·rcases List.mem_cons.1 hy with rfl | hy
   ·simp; omega
   ·have := ih y hy; simp; omega
  ·have := ih y hy; simp; omega
theorem pick_get {g : Cell → Option Int} : ∀ (r : List Cell) (i k : Int), get (pick g i r) k = if i ≤ k then (r[(k - i).toNat]?).bind g else none
 | [], i, k => by simp [pick, get_nil]
 | c :: r, i, k => by
  have ih := pick_get (g := g) r (i + 1) k
  have h0 : get (pick g i (c :: r)) k = if i = k then g c else get (pick g (i + 1) r) k := by
   rw [pick]
   split
   ·rename_i v hv
    rw [yw]
    simp [hv]
   ·rename_i hv
    by_cases hk : i = k
    ·subst hk
     rw [if_pos rfl, hv]
     exact Yi fun y hy => by have := pick_lo r (i + 1) y hy; omega
    ·rw [if_neg hk]
  rw [h0, ih]
  by_cases hk : i = k
  ·subst hk; simp
  ·rw [if_neg hk]
   by_cases hle : i ≤ k
   ·rw [if_pos hle, if_pos (by omega)]
    have : (k - i).toNat = (k - (i + 1)).toNat + 1 := by omega
    rw [this, List.getElem?_cons_succ]
   ·rw [if_neg hle, if_neg (by omega)]
/-- What the maps hold. -/
def MS.looseM (S : MS) : List (Int × Int) := pick Cell.loose 0 S.ws
def MS.wayM (S : MS) : List (Int × Int) := pick Cell.way 0 S.ws
def MS.sures (S : MS) : List Value := S.ws.map fun c => .int .u64 c.sure
def MS.at (S : MS) (i : Int) : Cell := S.ws.getD i.toNat ⟨0, none, none⟩
theorem MS.get_loose (S : MS) (i : Int) (h : 0 ≤ i) (hn : i < S.ws.length) : get S.looseM i = (S.at i).loose := by
 unfold MS.looseM MS.at
 rw [pick_get, if_pos h]
 have : (i - 0).toNat = i.toNat := by omega
 rw [this, List.getElem?_eq_getElem (by omega), List.getD_eq_getElem?_getD, List.getElem?_eq_getElem (by omega)]
 rfl
/-- Numbers that are words. -/
def okw (v : Int) : Prop := 0 ≤ v ∧ v < 18446744073709551616
def oki (v : Int) : Prop := -9223372036854775808 ≤ v ∧ v < 9223372036854775808
def Cell.ok (c : Cell) : Prop := okw c.sure ∧ (∀ v, c.loose = some v → okw v) ∧ (∀ v, c.way = some v → okw v)
structure MS.Ok (S : MS) : Prop where
 len : S.ws.length ≤ 4096
 cells : ∀ c ∈ S.ws, c.ok
 calls : oki S.calls
 til : oki S.til
theorem MS.Ok.at {S : MS} (h : S.Ok) (i : Int) : (S.at i).ok := by
 unfold MS.at
 rw [List.getD_eq_getElem?_getD]
 rcases Nat.lt_or_ge i.toNat S.ws.length with hl | hl
 ·rw [List.getElem?_eq_getElem hl]; exact h.cells _ (List.getElem_mem hl)
 ·rw [List.getElem?_eq_none hl]
  exact ⟨⟨by decide, by decide⟩, (fun v hv => by cases hv), (fun v hv => by cases hv)⟩
/-- The row of the sure words. -/
def IsRow (w : World) (bs : Nat) (A : Option Addr) (n cap : Nat) (xs : List Value) : Prop :=
 n ≤ cap ∧ cap ≤ maxLen ∧ xs.length = n ∧ (0 < n → A = some ⟨bs, 0, none⟩ ∧ ∃ cur, w.heap[bs]? = some (.cells cur 34 (0, 0)) ∧ n ≤ cur.size ∧ cur.toList.take n = xs)
structure IsMem (w : World) (f : Fp) (S : MS) : Prop where
 ok : S.Ok
 row : ∃ A cap, w.heap[f.p]? = some (.cells #[.slice A S.ws.length cap, .map (some f.bl), .map (some f.bw), .int .i64 S.calls, .int .i64 S.til] 57 (0, 0)) ∧ IsRow w f.bs A S.ws.length cap S.sures
 loose : IsM ek 3 w f.bl S.looseM
 way : IsM ek 3 w f.bw S.wayM
 ne : f.bl ≠ f.bw
 lt : f.bs < w.heap.size
theorem IsMem.lts {w : World} {f : Fp} {S : MS} (h : IsMem w f S) : ∀ b ∈ f.list, b < w.heap.size := by
 obtain ⟨A, cap, hp, _⟩ := h.row
 intro b hb
 simp only [Fp.list, List.mem_cons, List.not_mem_nil, or_false] at hb
 rcases hb with rfl | rfl | rfl | rfl
 ·exact (Array.getElem?_eq_some_iff.1 hp).1
 ·exact h.lt
 ·exact h.loose.lt
 ·exact h.way.lt
theorem IsMem.Zw {w w' : World} {f : Fp} {S : MS} (h : IsMem w f S) (hsz : w.heap.size ≤ w'.heap.size) (hb : ∀ b ∈ f.list, w'.heap[b]? = w.heap[b]?) : IsMem w' f S := by
 obtain ⟨A, cap, hp, h1, h2, h3, h4⟩ := h.row
 have e0 := hb f.p (by simp [Fp.list])
 have e1 := hb f.bs (by simp [Fp.list])
 have e2 := hb f.bl (by simp [Fp.list])
 have e3 := hb f.bw (by simp [Fp.list])
 refine ⟨h.ok, ⟨A, cap, e0.trans hp, h1, h2, h3, fun h0 => ?_⟩, h.loose.block e2, h.way.block e3, h.ne, Nat.lt_of_lt_of_le h.lt hsz⟩
 obtain ⟨hA, cur, hc, h5, h6⟩ := h4 h0
 exact ⟨hA, cur, e1.trans hc, h5, h6⟩
theorem IsMem.kept {w w' : World} {f : Fp} {S : MS} (h : IsMem w f S) {L : List Nat} (ht : Turn L w w') (hL : ∀ b ∈ f.list, b ∉ L) : IsMem w' f S :=
 h.Zw ht.size fun b hb => ht.block b (h.lts b hb) (hL b hb)
theorem IsMem.below {w w' : World} {f : Fp} {S : MS} (h : IsMem w f S) (hb : Below w.heap.size w w') : IsMem w' f S :=
 h.Zw hb.size fun b hm => hb.block b (h.lts b hm)
theorem cell_of {w : World} {b o : Nat} {c : Array Value} {e : TypeId} {fr : Nat × Nat} {v : Value} (h : w.heap[b]? = some (.cells c e fr)) (hv : c[o]? = some v) : w.cell? ⟨b, o, none⟩ = some v := by
 simp [World.cell?, h, hv]
theorem ZC {w : World} {b o : Nat} {c : Array Value} {e : TypeId} (h : w.heap[b]? = some (.cells c e (0, 0))) : w.frozen? ⟨b, o, none⟩ = false := by
 simp [World.frozen?, h]
theorem yu {w : World} {b o : Nat} {c : Array Value} {e : TypeId} {fr : Nat × Nat} (v : Value) (h : w.heap[b]? = some (.cells c e fr)) : (w.setCell ⟨b, o, none⟩ v).heap[b]? = some (.cells (c.setIfInBounds o v) e fr) := by
 simp [World.setCell, Array.getElem?_modify, h]
/-- What a walk is handed. -/
structure IsMem.Facts (w : World) (f : Fp) (S : MS) (A : Option Addr) (cap : Nat) : Prop where
 c0 : w.cell? ⟨f.p, 0, none⟩ = some (.slice A S.ws.length cap)
 c1 : w.cell? ⟨f.p, 1, none⟩ = some (.map (some f.bl))
 c2 : w.cell? ⟨f.p, 2, none⟩ = some (.map (some f.bw))
 c3 : w.cell? ⟨f.p, 3, none⟩ = some (.int .i64 S.calls)
 c4 : w.cell? ⟨f.p, 4, none⟩ = some (.int .i64 S.til)
 f3 : w.frozen? ⟨f.p, 3, none⟩ = false
 f4 : w.frozen? ⟨f.p, 4, none⟩ = false
theorem IsMem.facts {w : World} {f : Fp} {S : MS} (h : IsMem w f S) : ∃ A cap, IsMem.Facts w f S A cap ∧ IsRow w f.bs A S.ws.length cap S.sures := by
 obtain ⟨A, cap, hp, hr⟩ := h.row
 exact ⟨A, cap, ⟨cell_of hp rfl, cell_of hp rfl, cell_of hp rfl, cell_of hp rfl, cell_of hp rfl, ZC hp, ZC hp⟩, hr⟩
/-- A word of the row. -/
theorem IsRow.cell {w : World} {bs n cap : Nat} {A : Option Addr} {S : MS} (h : IsRow w bs A n cap S.sures) (i : Int) (h0 : 0 ≤ i) (h1 : i < n) : A = some ⟨bs, 0, none⟩ ∧ w.cell? ⟨bs, i.toNat, none⟩ = some (.int .u64 (S.at i).sure) ∧ w.frozen? ⟨bs, i.toNat, none⟩ = false := by
 obtain ⟨_, _, hl, h4⟩ := h
 obtain ⟨hA, cur, hc, h5, h6⟩ := h4 (by omega)
 refine ⟨hA, cell_of hc ?_, ZC hc⟩
 have hlt : i.toNat < S.ws.length := by simp [MS.sures] at hl; omega
 have e : S.sures[i.toNat]? = some (.int .u64 (S.at i).sure) := by
  unfold MS.sures MS.at
  rw [List.getElem?_map, List.getElem?_eq_getElem hlt, List.getD_eq_getElem?_getD, List.getElem?_eq_getElem hlt]
  rfl
 rw [← h6, List.getElem?_take] at e
 split at e
 ·simpa using e
 ·cases e
end Go.Proofs.YtkbhilhefnahpaaGreat.Mem
namespace Go.Proofs.YtkbhilhefnahpaaGreat.Mem
open Go Go.RowKit Go.Proofs.YtkbhilhefnahpaaGreat.ML
set_option linter.unusedVariables false
set_option linter.unusedSimpArgs false
def MS.set (S : MS) (i : Int) (c : Cell) : MS := { S with ws := S.ws.set i.toNat c }
theorem MS.set_len (S : MS) (i : Int) (c : Cell) : (S.set i c).ws.length = S.ws.length := by simp [MS.set]
theorem MS.set_at (S : MS) {i : Int} (c : Cell) (h0 : 0 ≤ i) (h1 : i < S.ws.length) (j : Int) (hj : 0 ≤ j) : (S.set i c).at j = if j = i then c else S.at j := by
 unfold MS.at MS.set
 simp only [List.getD_eq_getElem?_getD, List.getElem?_set]
 by_cases h : j = i
 ·subst h
  rw [if_pos rfl, if_pos (by omega), if_pos rfl]
  rfl
 ·rw [if_neg (by omega), if_neg h]
end Go.Proofs.YtkbhilhefnahpaaGreat.Mem
namespace Go.Proofs.YtkbhilhefnahpaaGreat.Mem
open Go Go.RowKit Go.Proofs.YtkbhilhefnahpaaGreat.ML Go.Proofs.YtkbhilhefnahpaaGreatW.PrintWords
set_option linter.unusedVariables false
set_option linter.unusedSimpArgs false
def MS.has (S : MS) (i : Int) : Bool := decide (0 ≤ i ∧ i < S.ws.length)
abbrev ptr (f : Fp) : Value := .pointer (some ⟨f.p, 0, none⟩)
set_option maxHeartbeats 400000 in
theorem there_calls {w : World} {f : Fp} {S : MS} (h : IsMem w f S) (i : Int) (hi : oki i) : Calls Tryz.prog 41 #[ptr f, .int .i64 i] w fun e w' => e = .returned (.bool (S.has i)) ∧ w = w' := by
 obtain ⟨A, cap, H, hr⟩ := h.facts
 have c0 := H.c0
 clear H hr
 unfold MS.has
 by_cases h0 : 0 ≤ i
 ·have g0 : decide (0 ≤ i) = true := decide_eq_true h0
  by_cases h1 : i < S.ws.length
  ·have g1 : decide (i < (S.ws.length : Int)) = true := decide_eq_true h1
   rw [decide_eq_true (And.intro h0 h1)]
   clear h0 h1
   go_enter Tryz.func41, Tryz.ntmps41
   go_wp2
   go_ret
   exact ⟨rfl, rfl⟩
  ·have g1 : decide (i < (S.ws.length : Int)) = false := decide_eq_false h1
   rw [decide_eq_false (fun h => h1 h.2)]
   clear h0 h1
   go_enter Tryz.func41, Tryz.ntmps41
   go_wp2
   go_ret
   exact ⟨rfl, rfl⟩
 ·have g0 : decide (0 ≤ i) = false := decide_eq_false h0
  rw [decide_eq_false (fun h => h0 h.1)]
  clear h0
  go_enter Tryz.func41, Tryz.ntmps41
  go_wp2
  go_ret
  exact ⟨rfl, rfl⟩
/-- What a call that counts does. -/
def MS.call (S : MS) (there : Bool) : Int × MS :=
 if S.til = 0 then (14, { S with calls := wrap64 (S.calls + 1) })
 else if 0 < S.til then (if there then 0 else 1, { S with calls := wrap64 (S.calls + 1), til := S.til - 1 })
 else (if there then 0 else 1, { S with calls := wrap64 (S.calls + 1) })
theorem okw_wf {v : Int} (h : okw v) : (Lit.int .u64 v).wf = true := by
 unfold okw at h
 simp [Lit.wf, IntKind.min, IntKind.max, IntKind.bits, IntKind.signed]
 omega
theorem YF {v : Int} (h : oki v) : (Lit.int .i64 v).wf = true := by
 unfold oki at h
 simp [Lit.wf, IntKind.min, IntKind.max, IntKind.bits, IntKind.signed]
 omega
set_option maxHeartbeats 400000 in
theorem Size_calls {w : World} {f : Fp} {S : MS} (h : IsMem w f S) : Calls Tryz.prog 20 #[ptr f] w fun e w' => e = .returned (.int .i64 S.ws.length) ∧ w = w' := by
 obtain ⟨A, cap, H, hr⟩ := h.facts
 have c0 := H.c0
 clear H hr h
 go_enter Tryz.func20, Tryz.ntmps20
 go_wp2
 go_ret
 exact ⟨rfl, rfl⟩
/-- Store. -/
def MS.store (S : MS) (i v : Int) : Int × MS :=
 let r := S.call (S.has i)
 if r.1 = 0 then (0, r.2.set i ⟨(r.2.at i).sure, some v, (r.2.at i).way⟩) else r
end Go.Proofs.YtkbhilhefnahpaaGreat.Mem
namespace Go.Proofs.YtkbhilhefnahpaaGreat.Mem
open Go Go.RowKit Go.Proofs.YtkbhilhefnahpaaGreat.ML Go.Proofs.YtkbhilhefnahpaaGreatW.PrintWords
set_option linter.unusedVariables false
set_option linter.unusedSimpArgs false
section
variable {ops : Array Oper} {rest : List Oper} {o : Oper} {a : Act} {Q : Exit → Act → World → Prop} {w : World} {b : Nat} {m : List (Int × Int)}
theorem lookU_some (hg : o.guard = none) (mo xo : Operand) (hop : o.op = Op.lookup 55 mo xo true) (hm : a.eval mo = .map (some b)) (h : IsM ek 3 w b m) (key : Int) (hx : a.eval xo = .int .i64 key) (hkey : oki key) (v : Int) (hv : get m key = some v)
  (hK : wpList Tryz.prog ops Q rest (a.put o.dst (.tuple #[.int .u64 v, .bool true])) w) : wpList Tryz.prog ops Q (o :: rest) a w :=
 wp_look_ok (x := ek) mt hg mo xo hop hm h key hx (YF hkey) (by rw [hv]; exact hK)
theorem lookU_none (hg : o.guard = none) (mo xo : Operand) (hop : o.op = Op.lookup 55 mo xo true) (hm : a.eval mo = .map (some b)) (h : IsM ek 3 w b m) (key : Int) (hx : a.eval xo = .int .i64 key) (hkey : oki key) (hv : get m key = none)
  (hK : wpList Tryz.prog ops Q rest (a.put o.dst (.tuple #[.int .u64 0, .bool false])) w) : wpList Tryz.prog ops Q (o :: rest) a w :=
 wp_look_ok (x := ek) mt hg mo xo hop hm h key hx (YF hkey) (by rw [hv]; exact hK)
end
theorem MS.has_iff (S : MS) (i : Int) : S.has i = true ↔ 0 ≤ i ∧ i < S.ws.length := by simp [MS.has]
/-- A word as it reads. -/
def Cell.now (c : Cell) : Int := c.loose.getD c.sure
def MS.read (S : MS) (i : Int) : Int := if S.has i then (S.at i).now else 0
set_option maxHeartbeats 400000 in
theorem Zr {w : World} {f : Fp} {S : MS} (h : IsMem w f S) (i : Int) (hi : oki i) : Calls Tryz.prog 12 #[ptr f, .int .i64 i] w fun e w' => e = .returned (.int .u64 (S.read i)) ∧ w = w' := by
 have ht := there_calls h i hi
 obtain ⟨A, cap, H, hr⟩ := h.facts
 have HR := ze.mk hr
 have c0 := H.c0
 have c1 := H.c1
 unfold MS.read
 by_cases hb : S.has i = true
 ·rw [hb] at ht
  rw [if_pos hb]
  obtain ⟨h0, h1⟩ := (S.has_iff i).1 hb
  obtain ⟨hA, hc, _⟩ := HR.o.cell i h0 h1
  subst hA
  have hg := S.get_loose i h0 h1
  have HL := ze.mk h.loose
  have HI := ze.mk hi
  cases hl : (S.at i).loose with
  | some v =>
   rw [hl] at hg
   have hfin : (S.at i).now = v := by simp [Cell.now, hl]
   rw [hfin]
   have HG := ze.mk hg
   clear H hr h hb hl hg hfin hi h0 h1 hc
   go_enter Tryz.func12, Tryz.ntmps12
   go_wp2_with (first
    | (go_at_call 41; refine ht.mono ?_; rintro e w' ⟨rfl, rfl⟩)
    | (at_lookup; refine lookU_some rfl _ _ rfl rfl HL.o i rfl HI.o v HG.o ?_))
   go_ret
   exact ⟨rfl, rfl⟩
  | none =>
   rw [hl] at hg
   have hfin : (S.at i).now = (S.at i).sure := by simp [Cell.now, hl]
   rw [hfin]
   have HG := ze.mk hg
   clear H hr h hb hl hg hfin hi
   go_enter Tryz.func12, Tryz.ntmps12
   go_wp2_with (first
    | (go_at_call 41; refine ht.mono ?_; rintro e w' ⟨rfl, rfl⟩)
    | (at_lookup; refine lookU_none rfl _ _ rfl rfl HL.o i rfl HI.o HG.o ?_))
   go_ret
   exact ⟨rfl, rfl⟩
 ·have hb' : S.has i = false := by simpa using hb
  rw [hb'] at ht
  rw [if_neg hb]
  clear H hr h hb hb' hi
  go_enter Tryz.func12, Tryz.ntmps12
  go_wp2_with (first
   | (go_at_call 41; refine ht.mono ?_; rintro e w' ⟨rfl, rfl⟩))
  go_ret
  exact ⟨rfl, rfl⟩
end Go.Proofs.YtkbhilhefnahpaaGreat.Mem
namespace Go.Proofs.YtkbhilhefnahpaaGreat.Mem
open Go Go.RowKit Go.Proofs.YtkbhilhefnahpaaGreat.ML Go.Proofs.YtkbhilhefnahpaaGreatW.PrintWords
set_option linter.unusedVariables false
set_option linter.unusedSimpArgs false
/-- All words turned, each by its place. -/
def MS.mapI (S : MS) (g : Int → Cell → Cell) : MS := { S with ws := S.ws.mapIdx fun j c => g (j : Int) c }
theorem MS.mapI_len (S : MS) (g : Int → Cell → Cell) : (S.mapI g).ws.length = S.ws.length := by simp [MS.mapI]
theorem MS.ext {S S' : MS} (hc : S.calls = S'.calls) (ht : S.til = S'.til) (hl : S.ws.length = S'.ws.length) (h : ∀ i : Int, 0 ≤ i → i < S.ws.length → S.at i = S'.at i) : S = S' := by
 obtain ⟨ws, c, t⟩ := S
 obtain ⟨ws', c', t'⟩ := S'
 simp only [] at hc ht hl
 subst hc ht
 have : ws = ws' := by
  refine List.ext_getElem hl fun j h1 h2 => ?_
  have := h (j : Int) (by omega) (by simp only []; omega)
  unfold MS.at at this
  simpa [List.getD_eq_getElem?_getD, h1, h2] using this
 rw [this]
/-! Fence -/
def Cell.fenced (c : Cell) : Cell := match c.way with
 | some v => ⟨v, if c.loose = some v then none else c.loose, none⟩
 | none => c
def MS.fence (S : MS) : Int × MS :=
 let r := S.call true
 if r.1 = 0 then (0, r.2.mapI fun _ c => c.fenced) else r
theorem MS.Ok.mapI {S : MS} (h : S.Ok) {g : Int → Cell → Cell} (hg : ∀ i c, c.ok → (g i c).ok) : (S.mapI g).Ok := by
 refine ⟨by rw [MS.mapI_len]; exact h.len, fun c hc => ?_, h.calls, h.til⟩
 unfold MS.mapI at hc
 obtain ⟨i, hi, rfl⟩ := List.mem_mapIdx.1 hc
 exact hg _ _ (h.cells _ (List.getElem_mem hi))
theorem pick_none {g : Cell → Option Int} : ∀ (r : List Cell) (i : Int), (∀ c ∈ r, g c = none) → pick g i r = []
 | [], _, _ => rfl
 | c :: r, i, h => by rw [pick, h c (by simp)]; exact pick_none r (i + 1) fun d hd => h d (by simp [hd])
abbrev IsRange (w : World) (b r n : Nat) (m : List (Int × Int)) (left : Lit → Bool) (cnt : Nat) : Prop := w.ranges Tryz.prog 3 (plainElem (H := Unit) Tryz.prog 34) b r n (ML.D ek m) left cnt
theorem range_key {left left' : Lit → Bool} {x : Int} (h : left' = fun z => left z && !z.sameKey (.int .i64 x)) (i : Int) : left' (.int .i64 i) = (left (.int .i64 i) && !(i == x)) := by
 subst h
 simp [Lit.sameKey, Bool.beq_eq_decide_eq]
theorem range_get {m : List (Int × Int)} {x c : Int} (h : ∀ zd, (ML.D ek m).atKey (.int .i64 x) zd = .lit (.int .u64 c)) : get m x = some c := by
 have h0 := h (.lit (.int .u64 0))
 have h1 := h (.lit (.int .u64 1))
 have e0 := D_get ek m x 0
 have e1 := D_get ek m x 1
 cases hg : get m x with
 | none =>
  rw [hg] at e0 e1
  have k0 := e0.symm.trans h0
  have k1 := e1.symm.trans h1
  simp only [Option.getD_none] at k0 k1
  injection k0 with k0
  injection k1 with k1
  injection k0 with _ k0
  injection k1 with _ k1
  omega
 | some v =>
  rw [hg] at e0
  have k0 := e0.symm.trans h0
  simp only [Option.getD_some] at k0
  injection k0 with k0
  injection k0 with _ k0
  rw [k0]
theorem Turn.grown {b : Nat} {w w' : World} (h : Turn [b] w w') : w.grownBy w' (some b) := ⟨h.os, h.tape, h.output, h.size, fun k hk hn => h.block k hk (by simpa using hn)⟩
end Go.Proofs.YtkbhilhefnahpaaGreat.Mem
namespace Go.Proofs.YtkbhilhefnahpaaGreat.Mem
open Go Go.RowKit Go.Proofs.YtkbhilhefnahpaaGreat.ML Go.Proofs.YtkbhilhefnahpaaGreatW.PrintWords Go.Proofs.YtkbhilhefnahpaaGreatW.PrintLast Go.Proofs.YtkbhilhefnahpaaGreatW.PrintMore Go.Proofs.YtkbhilhefnahpaaGreat.Print
set_option linter.unusedVariables false
set_option linter.unusedSimpArgs false
attribute [local go_sem] yS yR
theorem reps_ints {q : IntKind} {xs : List Int} {cs : List Value} (h : Reps (fun x c => c = [Value.int q x]) 1 xs cs) : cs = xs.map (Value.int q) := by
 obtain ⟨h1, h2⟩ := h
 refine List.ext_getElem? fun j => ?_
 rw [List.getElem?_map]
 rcases Nat.lt_or_ge j xs.length with hl | hl
 ·have e := List.getElem?_eq_getElem hl
  have := h2 j _ e
  rw [Nat.mul_one] at this
  rw [e]
  have hd : (cs.drop j).take 1 = [Value.int q xs[j]] := this
  have : ((cs.drop j).take 1)[0]? = some (Value.int q xs[j]) := by rw [hd]; rfl
  rw [List.getElem?_take, if_pos (by omega), List.getElem?_drop, Nat.add_zero] at this
  exact this
 ·rw [List.getElem?_eq_none hl, List.getElem?_eq_none (by omega)]
  rfl
/-- A row of numbers that is one's own. -/
theorem row_of_R {q : IntKind} {e : Nat} {w : World} {base : Nat} {ok : Nat → Prop} {v : Value} {xs : List Int} (h : Kd.R (Kd.int q) e w base ok v xs) : w.ownsRow base e 1 v xs.length (xs.map (Value.int q)) := by
 obtain ⟨_, inner, ho, hr⟩ := h
 rw [← reps_ints hr]
 exact ho
theorem R_of_row {q : IntKind} {e : Nat} {w : World} {base : Nat} {v : Value} {xs : List Int} (h : w.ownsRow base e 1 v xs.length (xs.map (Value.int q))) : Kd.R (Kd.int q) e w base (fun _ => True) v xs :=
 Kd.Xc (enc := Value.int q) (h1 := fun _ => rfl) h (fun _ _ => trivial)
theorem IsRow.readC {w : World} {bs n cap : Nat} {A : Option Addr} {S : MS} (h : IsRow w bs A n cap S.sures) : Kd.C (Kd.int .u64) w A n (S.ws.map Cell.sure) := by
 have hl : S.ws.length = n := by have := h.2.2.1; simpa [MS.sures] using this
 refine ⟨by simpa using hl, Nat.le_trans h.1 h.2.1, fun h0 => ⟨⟨bs, 0, none⟩, (h.cell 0 (by omega) (by omega)).1, fun j p hj => ⟨[.int .u64 p], rfl, rfl, fun i u hi => ?_⟩⟩⟩
 rw [List.getElem?_map] at hj
 rcases Nat.lt_or_ge j S.ws.length with hlt | hge
 ·have hc := (h.cell (j : Int) (by omega) (by omega)).2.1
  rw [List.getElem?_eq_getElem hlt] at hj
  simp at hj
  have hi0 : i = 0 := by
   have := (List.getElem?_eq_some_iff.1 hi).1
   simp at this
   exact this
  subst hi0
  simp at hi
  subst hi
  have e : (S.at (j : Int)).sure = p := by
   unfold MS.at
   rw [List.getD_eq_getElem?_getD]
   simp [hlt, hj]
  rw [e] at hc
  have ea : Addr.add ⟨bs, 0, none⟩ (j * (Kd.int .u64).sz + 0) = ⟨bs, j, none⟩ := by
   show Addr.add ⟨bs, 0, none⟩ (j * 1 + 0) = _
   unfold Addr.add
   split
   ·have : j = 0 := by omega
    subst this; rfl
   ·simp
  rw [ea]
  simpa using hc
 ·rw [List.getElem?_eq_none hge] at hj
  cases hj
/-- A memory with words. -/
def loadS (l : List Int) : MS := ⟨(l.take 4096).map fun v => ⟨v, none, none⟩, 0, -1⟩
theorem Yc (l : List Int) : (loadS l).ws.length = min l.length 4096 := by simp [loadS]; omega
theorem loadS_ok {l : List Int} (h : ∀ v ∈ l, okw v) : (loadS l).Ok := by
 refine ⟨by rw [Yc]; omega, fun c hc => ?_, (by show oki 0; unfold oki; omega), (by show oki (-1); unfold oki; omega)⟩
 simp only [loadS, List.mem_map] at hc
 obtain ⟨v, hv, rfl⟩ := hc
 exact ⟨h v (List.mem_of_mem_take hv), (fun _ e => by cases e), (fun _ e => by cases e)⟩
theorem loadS_loose (l : List Int) : (loadS l).looseM = [] := pick_none _ _ fun c hc => by
 simp only [loadS, List.mem_map] at hc
 obtain ⟨v, hv, rfl⟩ := hc
 rfl
theorem loadS_way (l : List Int) : (loadS l).wayM = [] := pick_none _ _ fun c hc => by
 simp only [loadS, List.mem_map] at hc
 obtain ⟨v, hv, rfl⟩ := hc
 rfl
theorem heap_new (w : World) (o : Obj) : (w.alloc o).heap[w.heap.size]? = some o := (MapKept.heap_alloc w o).1
theorem yO (w : World) (o : Obj) {i : Nat} (h : i < w.heap.size) : (w.alloc o).heap[i]? = w.heap[i]? := Below.heap_alloc w o i h
/-- The world of a new memory. -/
theorem made_mem {w : World} {base : Nat} {l : List Int} {A : Option Addr} {n cap : Nat} (hl : ∀ v ∈ l, okw v) (hn : n = min l.length 4096) (h : w.ownsRow base 34 1 (.slice A n cap) n ((l.take 4096).map (Value.int .u64))) (hb : base < w.heap.size ∨ n = 0) :
  ∃ f : Fp, f.p = w.heap.size + 2 ∧ (∀ b ∈ f.list, base ≤ b ∨ w.heap.size ≤ b) ∧ IsMem (((w.alloc (.map #[] 0)).alloc (.map #[] 0)).alloc (.cells #[.slice A n cap, .map (some w.heap.size), .map (some (w.heap.size + 1)), .int .i64 0, .int .i64 (-1)] 57 (0, 0))) f (loadS l) := by
 obtain ⟨h1, h2⟩ := h
 have s1 : (w.alloc (.map #[] 0)).heap.size = w.heap.size + 1 := by simp
 have s2 : ((w.alloc (.map #[] 0)).alloc (.map #[] 0)).heap.size = w.heap.size + 2 := by simp
 have key : ∀ bs, bs < w.heap.size + 3 → (∀ b ∈ [w.heap.size + 2, bs, w.heap.size, w.heap.size + 1], base ≤ b ∨ w.heap.size ≤ b) → IsRow (((w.alloc (.map #[] 0)).alloc (.map #[] 0)).alloc (.cells #[.slice A n cap, .map (some w.heap.size), .map (some (w.heap.size + 1)), .int .i64 0, .int .i64 (-1)] 57 (0, 0))) bs A n cap (loadS l).sures →
   ∃ f : Fp, f.p = w.heap.size + 2 ∧ (∀ b ∈ f.list, base ≤ b ∨ w.heap.size ≤ b) ∧ IsMem (((w.alloc (.map #[] 0)).alloc (.map #[] 0)).alloc (.cells #[.slice A n cap, .map (some w.heap.size), .map (some (w.heap.size + 1)), .int .i64 0, .int .i64 (-1)] 57 (0, 0))) f (loadS l) := by
  intro bs hbs hall hrow
  refine ⟨⟨w.heap.size + 2, bs, w.heap.size, w.heap.size + 1⟩, rfl, hall, ⟨loadS_ok hl, ⟨A, cap, ?_, ?_⟩, ?_, ?_, by simp, by simp; omega⟩⟩
  ·rw [Yc, ← hn]
   have := heap_new ((w.alloc (.map #[] 0)).alloc (.map #[] 0)) (.cells #[.slice A n cap, .map (some w.heap.size), .map (some (w.heap.size + 1)), .int .i64 0, .int .i64 (-1)] 57 (0, 0))
   rw [s2] at this
   exact this
  ·rw [Yc, ← hn]; exact hrow
  ·rw [loadS_loose]
   refine IsM.block (w := w.alloc (.map #[] 0)) (IsM.made w) ?_
   rw [yO _ _ (by rw [s2]; simp), yO _ _ (by rw [s1]; simp)]
  ·rw [loadS_way]
   have hm := IsM.made (x := ek) (k := 3) (w.alloc (.map #[] 0))
   rw [s1] at hm
   refine IsM.block hm ?_
   rw [yO _ _ (by rw [s2]; simp)]
 have hs : (loadS l).sures = (l.take 4096).map (Value.int .u64) := by
  have : ((fun c : Cell => Value.int .u64 c.sure) ∘ fun v => (⟨v, none, none⟩ : Cell)) = Value.int .u64 := rfl
  simp [MS.sures, loadS, this]
 rcases h2 with ⟨h2, h3⟩ | ⟨g, cap', cur, hv, hbg, hh, h3, h4, h5, h6⟩
 ·injection h2 with hA _ hc
  subst h3 hA hc
  refine key w.heap.size (by omega) (fun b hb => by simp at hb; omega) ⟨Nat.le_refl _, by unfold maxLen; omega, by rw [hs, h1], fun h => absurd h (by omega)⟩
 ·injection hv with hA _ hc
  subst hA hc
  have hg := (Array.getElem?_eq_some_iff.1 hh).1
  refine key g (by omega) (fun b hb => by simp at hb; omega) ⟨h3, h4, by rw [hs, h1]; simp, fun h => ⟨rfl, cur, ?_, by omega, by rw [hs, ← h6]; simp⟩⟩
  rw [yO _ _ (by rw [s2]; omega), yO _ _ (by rw [s1]; omega), yO _ _ (by omega)]
  exact hh
set_option maxHeartbeats 1000000 in
set_option maxRecDepth 100000 in
theorem Load_calls {w : World} (A0 : Option Addr) (c0 : Nat) (l : List Int) (hr0 : Kd.C (Kd.int .u64) w A0 l.length l) (hc0 : l.length ≤ c0) (hl : ∀ v ∈ l, okw v) :
  Calls Tryz.prog 6 #[.slice A0 l.length c0] w fun e w' => ∃ f : Fp, e = .returned (ptr f) ∧ IsMem w' f (loadS l) ∧ (∀ b ∈ f.list, w.heap.size ≤ b) ∧ Below w.heap.size w w' := by
 obtain ⟨n, hn⟩ : ∃ n, n = min l.length 4096 := ⟨_, rfl⟩
 have ht : (l.take 4096).length = n := by rw [hn]; simp; omega
 have hC : Kd.C (Kd.int .u64) w A0 (l.take 4096).length (l.take 4096) := by
  obtain ⟨h1, h2, h3⟩ := hr0
  refine ⟨rfl, by omega, fun h0 => ?_⟩
  obtain ⟨ad, hA, h4⟩ := h3 (by omega)
  refine ⟨ad, hA, fun j p hj => h4 j p ?_⟩
  rw [List.getElem?_take] at hj
  split at hj
  ·exact hj
  ·cases hj
 have hcl := slices_Clone_uint64_uint64.calls A0 c0 (l.take 4096) (l.take 4096) w hC (by omega) (by unfold slices_Clone_uint64_uint64.f; rw [if_pos (by omega)])
 rw [ht] at hcl
 have fin : ∀ (v0 : Value) (w1 : World), Kd.R (Kd.int .u64) 34 w1 w.heap.size (fun _ => True) v0 (l.take 4096) → Below w.heap.size w w1 → ∃ A cap, v0 = .slice A n cap ∧ ∃ f : Fp, f.p = w1.heap.size + 2 ∧ (∀ b ∈ f.list, w.heap.size ≤ b) ∧ IsMem (((w1.alloc (.map #[] 0)).alloc (.map #[] 0)).alloc (.cells #[.slice A n cap, .map (some w1.heap.size), .map (some (w1.heap.size + 1)), .int .i64 0, .int .i64 (-1)] 57 (0, 0))) f (loadS l) := by
  intro v0 w1 hR hb
  obtain ⟨A, cap, rfl⟩ := Kd.yc hR
  have hrow := row_of_R hR
  rw [ht] at hrow ⊢
  have hs := hb.size
  have hor : w.heap.size < w1.heap.size ∨ n = 0 := by
   rcases hrow.2 with ⟨_, h0⟩ | ⟨g, cap', cur, hv, hbg, hh, _⟩
   ·exact .inr h0
   ·have := (Array.getElem?_eq_some_iff.1 hh).1; omega
  obtain ⟨f, f1, f2, f3⟩ := made_mem hl hn hrow hor
  exact ⟨A, cap, rfl, f, f1, fun b hb' => by have := f2 b hb'; omega, f3⟩
 have HF := ze.mk fin
 by_cases hle : l.length ≤ 4096
 ·obtain rfl : n = l.length := by omega
  have g0 : (l.length : Int) ≤ 4096 := by omega
  have HC := ze.mk hcl
  clear hn hC hcl ht hr0 hle fin
  have hmm := @run_makeMap Tryz.prog
  go_enter Tryz.func6, Tryz.ntmps6
  go_wp2_with (first
   | (go_at_call 19; refine HC.o.mono ?_; rintro e w1 ⟨v0, rfl, hR, hb⟩; obtain ⟨A, cap, rfl, f, f1, f2, f3⟩ := HF.o v0 w1 hR hb; have F1 := ze.mk f1; have F2 := ze.mk f2; have F3 := ze.mk f3; have HB := ze.mk hb; clear hR hb f1 f2 f3))
  go_ret
  exact ⟨f, by simp only [ptr, F1.o]; rfl, F3.o, F2.o, ((HB.o.alloc HB.o.size _).alloc (by have := HB.o.size; simp; omega) _).alloc (by have := HB.o.size; simp; omega) _⟩
 ·obtain rfl : n = 4096 := by omega
  have g0 : ¬ (l.length : Int) ≤ 4096 := by omega
  have g1 : 4096 ≤ c0 := by omega
  have HC := ze.mk hcl
  clear hn hC hcl ht hr0 hle fin
  have hmm := @run_makeMap Tryz.prog
  go_enter Tryz.func6, Tryz.ntmps6
  go_wp2_with (first
   | (go_at_call 19; refine HC.o.mono ?_; rintro e w1 ⟨v0, rfl, hR, hb⟩; obtain ⟨A, cap, rfl, f, f1, f2, f3⟩ := HF.o v0 w1 hR hb; have F1 := ze.mk f1; have F2 := ze.mk f2; have F3 := ze.mk f3; have HB := ze.mk hb; clear hR hb f1 f2 f3))
  go_ret
  exact ⟨f, by simp only [ptr, F1.o]; rfl, F3.o, F2.o, ((HB.o.alloc HB.o.size _).alloc (by have := HB.o.size; simp; omega) _).alloc (by have := HB.o.size; simp; omega) _⟩
end Go.Proofs.YtkbhilhefnahpaaGreat.Mem
namespace Go.Proofs.YtkbhilhefnahpaaGreat.Mem
open Go Go.RowKit Go.Proofs.YtkbhilhefnahpaaGreat.ML Go.Proofs.YtkbhilhefnahpaaGreatW.PrintWords Go.Proofs.YtkbhilhefnahpaaGreatW.PrintLast Go.Proofs.YtkbhilhefnahpaaGreatW.PrintMore Go.Proofs.YtkbhilhefnahpaaGreat.Print
set_option linter.unusedVariables false
set_option linter.unusedSimpArgs false
end Go.Proofs.YtkbhilhefnahpaaGreat.Mem
