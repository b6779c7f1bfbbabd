/- Maps from whole numbers as sorted lists of pairs. -/
import Derived.Maps.OwnSet
import Derived.Maps.OwnOps
import Derived.Maps.RangeWalk
import Derived.WalkKit
import Derived.KernelRfl
namespace Go.Proofs.YtkbhilhefnahpaaGreat.ML
open Go Go.Maps Go.RowKit Go.ChangeMaps Go.MapKept Go.WideElems
set_option linter.unusedVariables false
set_option linter.unusedSimpArgs false
/-- An element's type: how its values stand in memory. -/
structure EK (P : Program) (e : TypeId) (α : Type) where
 val : α → Value
 lit : α → Lit
 zero : α
 ok : α → Prop
 plain : ∀ a, ok a → plainElem (H := Unit) P e (val a) = some (.lit (lit a), [])
 inv : ∀ v z, plainElem (H := Unit) P e v = some z → ∃ a, v = val a ∧ z = (.lit (lit a), []) ∧ ok a
 inj : ∀ a b, lit a = lit b → a = b
 zrun : ∀ w, (zeroValue e).run P w = .ok (val zero) w
 okz : ok zero
def ekInt {P : Program} {e : TypeId} {q : IntKind} (he : P.underlying e = some (.int q)) (hz : ∀ w, (zeroValue e).run P w = .ok (.int q 0) w) : EK P e Int where
 val := .int q
 lit := .int q
 zero := 0
 ok a := (Lit.int q a).wf = true
 plain a h := plainElem_int he h
 inv v z h := by obtain ⟨a, h1, h2, h3⟩ := plainElem_int_inv he h; exact ⟨a, h1, h2, h3⟩
 inj a b h := by injection h
 zrun := hz
 okz := by cases q <;> decide
theorem YB {P : Program} {e : TypeId} (he : P.underlying e = some .bool) {v : Value} {z : DataW Unit × List MemPlace} (h : plainElem P e v = some z) : ∃ a, v = .bool a ∧ z = (.lit (.bool a), []) := by
 cases v <;> simp [plainElem, he] at h
 exact ⟨_, rfl, h.symm⟩
def ekBool {P : Program} {e : TypeId} (he : P.underlying e = some .bool) (hz : ∀ w, (zeroValue e).run P w = .ok (.bool false) w) : EK P e Bool where
 val := .bool
 lit := .bool
 zero := false
 ok _ := True
 plain a _ := plainElem_bool he a
 inv v z h := by obtain ⟨a, h1, h2⟩ := YB he h; exact ⟨a, h1, h2, trivial⟩
 inj a b h := by injection h
 zrun := hz
 okz := trivial

section lists
variable {α : Type}
def get (m : List (Int × α)) (k : Int) : Option α := (m.find? (fun x => x.1 == k)).map (·.2)
def ins (x : Int × α) : List (Int × α) → List (Int × α)
 | [] => [x]
 | y :: r => if x.1 < y.1 then x :: y :: r else y :: ins x r
def del (m : List (Int × α)) (k : Int) : List (Int × α) := m.filter (fun x => !(x.1 == k))
def put (m : List (Int × α)) (k : Int) (v : α) : List (Int × α) := ins (k, v) (del m k)
def Sorted (m : List (Int × α)) : Prop := m.Pairwise (fun a b => a.1 < b.1)
theorem get_nil (k : Int) : get ([] : List (Int × α)) k = none := rfl
theorem yw (x : Int × α) (m : List (Int × α)) (k : Int) : get (x :: m) k = if x.1 = k then some x.2 else get m k := by
 unfold get
 by_cases h : x.1 = k
 ·simp [h]
 ·simp [h]
theorem Yi {m : List (Int × α)} {k : Int} (h : ∀ x ∈ m, x.1 ≠ k) : get m k = none := by
 induction m with
 | nil => rfl
 | cons y r ih => rw [yw, if_neg (h y (by simp))]; exact ih fun x hx => h x (by simp [hx])
theorem yK {m : List (Int × α)} {k : Int} {v : α} (h : get m k = some v) : (k, v) ∈ m := by
 induction m with
 | nil => cases h
 | cons y r ih =>
  rw [yw] at h
  by_cases hy : y.1 = k
  ·rw [if_pos hy] at h
   obtain rfl := Option.some.inj h
   subst hy
   simp
  ·rw [if_neg hy] at h
   exact List.mem_cons_of_mem _ (ih h)
theorem Yg {m : List (Int × α)} (hs : Sorted m) {k : Int} {v : α} (h : (k, v) ∈ m) : get m k = some v := by
 induction m with
 | nil => cases h
 | cons y r ih =>
  obtain ⟨h1, h2⟩ := List.pairwise_cons.1 hs
  rw [yw]
  rcases List.mem_cons.1 h with h | h
  ·subst h; simp
  ·have := h1 _ h
   rw [if_neg (by simp at this; omega)]
   exact ih h2 h
theorem get_del (m : List (Int × α)) (k j : Int) : get (del m k) j = if j = k then none else get m j := by
 induction m with
 | nil => simp [del, get]
 | cons y r ih =>
  unfold del at ih ⊢
  by_cases hy : y.1 = k
  ·rw [List.filter_cons_of_neg (by simp [hy]), ih, yw]
   by_cases hj : j = k
   ·simp [hj]
   ·rw [if_neg hj, if_neg hj, if_neg (by omega)]
  ·rw [List.filter_cons_of_pos (by simp [hy]), yw, ih, yw]
   by_cases hj : j = k
   ·rw [if_neg (by omega)]; simp [hj]
   ·simp [hj]
theorem mem_ins {x y : Int × α} {m : List (Int × α)} : y ∈ ins x m ↔ y = x ∨ y ∈ m := by
 induction m with
 | nil => simp [ins]
 | cons z r ih =>
  unfold ins
  split
  ·simp
  ·simp [ih]
   constructor
   ·rintro (h | h | h) <;> simp [h]
   ·rintro (h | h | h) <;> simp [h]
theorem get_ins {x : Int × α} {m : List (Int × α)} (hn : ∀ y ∈ m, y.1 ≠ x.1) (j : Int) : get (ins x m) j = if j = x.1 then some x.2 else get m j := by
 induction m with
 | nil => simp [ins, yw, get_nil, eq_comm]
 | cons z r ih =>
  unfold ins
  split
  ·rw [yw]; simp [eq_comm]
  ·rw [yw, ih fun y hy => hn y (by simp [hy]), yw]
   have := hn z (by simp)
   by_cases hj : j = x.1
   ·rw [if_pos hj, if_neg (by omega), if_pos hj]
   ·simp [hj]
theorem del_ne {m : List (Int × α)} {k : Int} : ∀ y ∈ del m k, y.1 ≠ k := by
 intro y hy
 simpa [del] using (List.mem_filter.1 hy).2
theorem get_put (m : List (Int × α)) (k : Int) (v : α) (j : Int) : get (put m k v) j = if j = k then some v else get m j := by
 unfold put
 rw [get_ins del_ne, get_del]
 by_cases h : j = k <;> simp [h]
theorem sorted_nil : Sorted ([] : List (Int × α)) := List.Pairwise.nil
theorem ext {a b : List (Int × α)} (ha : Sorted a) (hb : Sorted b) (h : ∀ k, get a k = get b k) : a = b := by
 induction a generalizing b with
 | nil =>
  cases b with
  | nil => rfl
  | cons y r => have := h y.1; rw [yw] at this; simp [get_nil] at this
 | cons x r ih =>
  cases b with
  | nil => have := h x.1; rw [yw] at this; simp [get_nil] at this
  | cons y s =>
   obtain ⟨a1, a2⟩ := List.pairwise_cons.1 ha
   obtain ⟨b1, b2⟩ := List.pairwise_cons.1 hb
   have hx := h x.1
   have hy := h y.1
   rw [yw, yw] at hx hy
   simp only [if_true] at hx hy
   have hxy : x.1 = y.1 := by
    rcases Int.lt_trichotomy x.1 y.1 with hlt | he | hlt
    ·rw [if_neg (by omega)] at hx
     have hm := yK hx.symm
     have := b1 _ hm
     simp at this; omega
    ·exact he
    ·rw [if_neg (by omega)] at hy
     have hm := yK hy
     have := a1 _ hm
     simp at this; omega
   rw [if_pos hxy.symm] at hx
   have hxe : x = y := Prod.ext hxy (Option.some.inj hx)
   subst hxe
   rw [ih a2 b2 fun k => ?_]
   have hk := h k
   rw [yw, yw] at hk
   by_cases hkx : x.1 = k
   ·rw [Yi (m := r) fun z hz => (by have := a1 z hz; omega), Yi (m := s) fun z hz => (by have := b1 z hz; omega)]
   ·simpa [hkx] using hk
theorem length_put (m : List (Int × α)) (k : Int) (v : α) : (put m k v).length ≤ m.length + 1 := by
 have h : ∀ (x : Int × α) (l : List (Int × α)), (ins x l).length = l.length + 1 := by
  intro x l
  induction l with
  | nil => rfl
  | cons y r ih => unfold ins; split <;> simp [ih]
 unfold put
 rw [h]
 have := List.length_filter_le (fun x : Int × α => !(x.1 == k)) m
 unfold del
 omega
/-- Keys within a row of numbers are no more than these. -/
theorem length_le {m : List (Int × α)} (hs : Sorted m) {n : Nat} {lo : Int} (hk : ∀ x ∈ m, lo ≤ x.1 ∧ x.1 < lo + n) : m.length ≤ n := by
 induction m generalizing n lo with
 | nil => simp
 | cons x r ih =>
  obtain ⟨h1, h2⟩ := List.pairwise_cons.1 hs
  have hx := hk x (by simp)
  have : r.length ≤ (lo + n - (x.1 + 1)).toNat := ih h2 (lo := x.1 + 1) fun y hy => by
   have := h1 y hy
   have := (hk y (by simp [hy])).2
   omega
  simp
  omega
end lists

section maps
variable {P : Program} {e : TypeId} {α : Type} (x : EK P e α)
def ent (y : Int × α) : Lit × DataW Unit := (.int .i64 y.1, .lit (x.lit y.2))
def D (m : List (Int × α)) : DataW Unit := .map (m.map (ent x))
theorem same_ent (k : Int) (y : Int × α) : ((ent x y).1).sameKey (.int .i64 k) = (y.1 == k) := by
 simp [ent, Lit.sameKey, Bool.beq_eq_decide_eq]
theorem D_ins (y : Int × α) (m : List (Int × α)) : DataW.insert (ent x y) (m.map (ent x)) = (ins y m).map (ent x) := by
 induction m with
 | nil => rfl
 | cons z r ih =>
  simp only [List.map_cons, DataW.insert, ins]
  have : (ent x y).1.before (ent x z).1 = decide (y.1 < z.1) := rfl
  rw [this]
  by_cases h : y.1 < z.1
  ·simp [h]
  ·simp [h, ih]
theorem D_del (m : List (Int × α)) (k : Int) : (D x m).del (.int .i64 k) = D x (del m k) := by
 show DataW.map (List.filter _ (List.map (ent x) m)) = DataW.map (List.map (ent x) (List.filter _ m))
 rw [List.filter_map]
 congr 2
 apply List.filter_congr
 intro y _
 simp [same_ent]
theorem D_put (m : List (Int × α)) (k : Int) (v : α) : (D x m).put (.int .i64 k) (.lit (x.lit v)) = D x (put m k v) := by
 have h := D_del x m k
 unfold D DataW.del at h
 injection h with h
 show DataW.map (DataW.insert _ (List.filter _ (List.map (ent x) m))) = DataW.map (List.map (ent x) (ins (k, v) (del m k)))
 rw [h]
 exact congrArg DataW.map (D_ins x (k, v) (del m k))
theorem atKey_map (es : List (Lit × DataW Unit)) (k : Lit) (z : DataW Unit) : (DataW.map es).atKey k z = ((es.find? (fun p => p.1.sameKey k)).map (·.2)).getD z := by
 simp only [DataW.atKey]
 cases es.find? (fun p => p.1.sameKey k) <;> rfl
theorem D_get (m : List (Int × α)) (k : Int) (z : α) : (D x m).atKey (.int .i64 k) (.lit (x.lit z)) = .lit (x.lit ((get m k).getD z)) := by
 unfold D
 rw [atKey_map]
 induction m with
 | nil => rfl
 | cons y r ih =>
  rw [List.map_cons, List.find?_cons, same_ent, yw]
  by_cases h : y.1 = k
  ·simp [h, ent]
  ·have : (y.1 == k) = false := by simp [h]
   rw [this, if_neg h]
   exact ih
theorem D_has (m : List (Int × α)) (k : Int) : Maps.has (D x m) (.int .i64 k) = (get m k).isSome := by
 induction m with
 | nil => rfl
 | cons y r ih =>
  have ih' : (List.map (ent x) r).any (fun p => p.1.sameKey (.int .i64 k)) = (get r k).isSome := ih
  show (List.map (ent x) (y :: r)).any (fun p => p.1.sameKey (.int .i64 k)) = (get (y :: r) k).isSome
  rw [List.map_cons, List.any_cons, same_ent, yw, ih']
  by_cases h : y.1 = k <;> simp [h]
theorem D_size (m : List (Int × α)) : Maps.size (D x m) = m.length := by simp [Maps.size, D]
theorem YY (m : List (Int × α)) (h : DataW.rising (m.map (ent x)) = true) : Sorted m := by
 have key : ∀ m : List (Int × α), DataW.rising (m.map (ent x)) = true → Sorted m := by
  intro m
  induction m with
  | nil => intro _; exact sorted_nil
  | cons a r ih =>
   cases r with
   | nil => intro _; simp [Sorted]
   | cons b s =>
    intro h
    simp only [List.map_cons, DataW.rising, Bool.and_eq_true] at h
    have h1 : a.1 < b.1 := by simpa [ent, Lit.before] using h.1
    have h2 : Sorted (b :: s) := ih (by simpa using h.2)
    refine List.pairwise_cons.2 ⟨?_, h2⟩
    intro y hy
    rcases List.mem_cons.1 hy with rfl | hy
    ·exact h1
    ·have := (List.pairwise_cons.1 h2).1 y hy; omega
 exact key m h

/-- The types of a map. -/
structure MT (P : Program) (t k e : TypeId) : Prop where
 ht : P.underlying t = some (.map k e)
 hk : P.underlying k = some (.int .i64)
theorem MT.keyed {t k : TypeId} (T : MT P t k e) : Keyed P k := int_keyed T.hk
/-- Block b is a map with these entries. -/
def IsM (k : TypeId) (w : World) (b : Nat) (m : List (Int × α)) : Prop := w.ownsMap P k (plainElem P e) b m.length (D x m)
variable {x} {k t : TypeId} {w : World} {b : Nat} {m : List (Int × α)}
theorem IsM.of {n : Nat} (h : w.ownsMap P k (plainElem P e) b n (D x m)) : IsM x k w b m := by
 obtain ⟨es, clock, hb, F, hs, hD⟩ := h
 refine ⟨es, clock, hb, F, ?_, hD⟩
 have : Maps.size (D x m) = es.size := by rw [hD]; simp [Maps.size, length_sorted]
 rw [D_size] at this
 omega
theorem IsM.lt (h : IsM x k w b m) : b < w.heap.size := World.ownsMap.lt h
theorem IsM.sorted (T : MT P t k e) (h : IsM x k w b m) : Sorted m := by
 obtain ⟨es, clock, hb, F, hs, hD⟩ := h
 have hr := fit_rising T.keyed F
 unfold D at hD
 injection hD with hD
 rw [← hD] at hr
 exact YY x m hr
theorem IsM.ok (h : IsM x k w b m) : ∀ y ∈ m, x.ok y.2 ∧ (Lit.int .i64 y.1).wf = true ∨ True := fun _ _ => .inr trivial
theorem IsM.block {w' : World} (h : IsM x k w b m) (hb : w'.heap[b]? = w.heap[b]?) : IsM x k w' b m := by
 obtain ⟨es, clock, h1, h2⟩ := h
 exact ⟨es, clock, hb.trans h1, h2⟩
theorem IsM.made (w : World) : IsM x k (w.alloc (.map #[] 0)) w.heap.size [] := World.ownsMap_made w P k (plainElem P e)
/-- The block is no row of cells. -/
theorem IsM.obj (h : IsM x k w b m) : ∃ es clock, w.heap[b]? = some (.map es clock) := by
 obtain ⟨es, clock, h1, h2⟩ := h
 exact ⟨es, clock, h1⟩
theorem IsM.Zi (h : IsM x k w b m) {b' : Nat} {c : Array Value} {el : TypeId} {fr : Nat × Nat} (h' : w.heap[b']? = some (.cells c el fr)) : b' ≠ b := by
 rintro rfl
 obtain ⟨es, clock, h1⟩ := h.obj
 rw [h1] at h'
 cases h'
theorem ZB {w w' : World} (h : w.mapTurned w' b) : w.grownBy w' (some b) := h.grown

section steps
variable {ops : Array Oper} {rest : List Oper} {o : Oper} {a : Act} {Q : Exit → Act → World → Prop}
theorem wp_look_ok (T : MT P t k e) (hg : o.guard = none) (mo xo : Operand) (hop : o.op = Op.lookup t mo xo true) (hm : a.eval mo = .map (some b)) (h : IsM x k w b m) (key : Int) (hx : a.eval xo = .int .i64 key) (hkey : (Lit.int .i64 key).wf = true)
  (hK : wpList P ops Q rest (a.put o.dst (.tuple #[x.val ((get m key).getD x.zero), .bool (get m key).isSome])) w) : wpList P ops Q (o :: rest) a w :=
 wpList_lookup_own_ok w hg mo xo t hop k e T.keyed T.ht (plainElem P e) (x.zrun w) (.lit (x.lit x.zero)) [] (x.plain _ x.okz) b m.length (D x m) hm h _ _ hx (keyOf_int_mk T.hk hkey) (fun v ps hv => by
  rw [D_get] at hv
  obtain ⟨c, rfl, hc, _⟩ := x.inv _ _ hv
  have : (get m key).getD x.zero = c := x.inj _ _ (by simpa using congrArg Prod.fst hc)
  rw [D_has, ← this]
  exact hK)
theorem wp_look (T : MT P t k e) (hg : o.guard = none) (mo xo : Operand) (hop : o.op = Op.lookup t mo xo false) (hm : a.eval mo = .map (some b)) (h : IsM x k w b m) (key : Int) (hx : a.eval xo = .int .i64 key) (hkey : (Lit.int .i64 key).wf = true)
  (hK : wpList P ops Q rest (a.put o.dst (x.val ((get m key).getD x.zero))) w) : wpList P ops Q (o :: rest) a w := by
 obtain ⟨v, ps, hrun, hv⟩ := World.ownsMap.lookup h T.keyed T.ht (x.zrun w) (x.plain _ x.okz) (keyOf_int_mk T.hk hkey)
 rw [D_get] at hv
 obtain ⟨c, rfl, hc, _⟩ := x.inv _ _ hv
 have : (get m key).getD x.zero = c := x.inj _ _ (by simpa using congrArg Prod.fst hc)
 subst this
 refine wpList_plain hg fun K' hK' => ?_
 unfold Oper.wp
 simp [execOp, hop, hm, hx, hrun, Result.andThen]
 exact hK' _ _ hK
theorem run_look_nil (T : MT P t k e) (x : EK P e α) (w : World) (key : Int) (hkey : (Lit.int .i64 key).wf = true) (c : Bool) : (Instr.lookup t (.map none) (.int .i64 key) c).run P w = .ok (if c then .tuple #[x.val x.zero, .bool false] else x.val x.zero) w :=
 Maps.look_nil c T.keyed T.ht (x.zrun w) (keyOf_int_mk T.hk hkey)
theorem wp_put (T : MT P t k e) (hg : o.guard = none) (mo xo vo : Operand) (hop : o.op = Op.mapUpdate t mo xo vo) (hm : a.eval mo = .map (some b)) (h : IsM x k w b m) (hn : m.length < 4611686018427387904) (key : Int) (v : α) (hx : a.eval xo = .int .i64 key) (hv : a.eval vo = x.val v) (hkey : (Lit.int .i64 key).wf = true) (hok : x.ok v)
  (hK : ∀ w', IsM x k w' b (put m key v) → w.mapTurned w' b → wpList P ops Q rest (a.put o.dst undef) w') : wpList P ops Q (o :: rest) a w :=
 wpList_mapUpdate_in w hg mo xo vo t hop k e T.keyed T.ht (plainElem P e) b m.length (D x m) hm h (by unfold maxLen; omega) _ _ _ hx hv (keyOf_int_mk T.hk hkey) (.lit (x.lit v)) [] (x.plain _ hok) (fun w' h1 h2 => hK w' (IsM.of (by rw [← D_put]; exact h1)) h2)
end steps
end maps
end Go.Proofs.YtkbhilhefnahpaaGreat.ML
