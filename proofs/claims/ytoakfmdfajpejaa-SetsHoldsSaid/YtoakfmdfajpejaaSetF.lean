/- Sets of files: versions, in plain Lean; steps of a region that draws. -/
import Derived.Test.YtoakfmdfajpejaaSetE
import Derived.Test.YtoakfmdfajpejaaReg
namespace Go.Proofs.Ytoakfmdfajpejaa.Sets
open Go Go.Maps Go.RowKit Go.Proofs.Ytoakfmdfajpejaa.ML Go.Proofs.Ytoakfmdfajpejaa.Reg Go.Proofs.Ytoakfmdfajpejaa.Print Go.Proofs.YtoakfmdfajpejaaW.PrintWords Go.Proofs.YtoakfmdfajpejaaW.PrintLast Go.Proofs.YtoakfmdfajpejaaW.PrintMore
set_option linter.unusedVariables false
set_option linter.unusedSimpArgs false
theorem info_int3 : (Try.prog.info? 3).map (fun i => (i.zero, i.size, i.bytes)) = some (some (.int .i64 0), 1, 8) := by kernel_rfl
theorem wanted_undef {ops : Array Oper} {o : Oper} {tmps : Array Value} {j : Nat} {b : Bool} {d : Tmp} (h : o.guard = some (j, b)) (hd : (ops[j]?).bind (·.dst) = some d) (ht : tmps[d]? = some undef) : Region.wanted o (yielded ops tmps) = false := by
  simp [Region.wanted, h, yielded, hd, ht, undef]
section steps
variable {P : Program} {ops : Array Oper} {Inv : World → Prop} {e : TypeId} {α : Type} {x : EK P e α} {k t : TypeId} {b : Nat} {m : List (Int × α)}
theorem S_look {ev : Nat → Bool} {Q : Act → World → Prop} {i : Nat} {r : List Oper} {a : Act} {w : World} {o : Oper} (T : MT P t k e) (he : ev i = false) (hw : Region.wanted o (yielded ops a.tmps) = true) (mo xo : Operand) (hop : o.op = Op.lookup t mo xo false) (hm : a.eval mo = .map (some b)) (h : ∀ W, Inv W → IsM x k W b m) (key : Int) (hx : a.eval xo = .int .i64 key) (hkey : (Lit.int .i64 key).wf = true) {c : α} (hc : (get m key).getD x.zero = c)
    (hK : wpS P ops Inv ev Q r (i + 1) (a.put o.dst (x.val c)) w) : wpS P ops Inv ev Q (o :: r) i a w := by
  subst hc
  refine S_val (v := x.val ((get m key).getD x.zero)) he hw (fun W hW R hR => ?_) hK
  have hrun := run_look T (h W hW) key hkey
  simpa [execOp, hop, hm, hx, hrun, Result.andThen] using hR
theorem S_len {ev : Nat → Bool} {Q : Act → World → Prop} {i : Nat} {r : List Oper} {a : Act} {w : World} {o : Oper} (T : MT P t k e) (he : ev i = false) (hw : Region.wanted o (yielded ops a.tmps) = true) (mo : Operand) (hop : o.op = Op.call { callee := Callee.builtin Builtin.len, args := #[mo], argTypes := #[t] }) (hm : a.eval mo = .map (some b)) (h : ∀ W, Inv W → IsM x k W b m) {n : Int} (hn : (m.length : Int) = n)
    (hK : wpS P ops Inv ev Q r (i + 1) (a.put o.dst (.int .i64 n)) w) : wpS P ops Inv ev Q (o :: r) i a w := by
  subst hn
  refine S_val (v := .int .i64 m.length) he hw (fun W hW R hR => ?_) hK
  have hrun := World.ownsMap.len (h W hW) T.ht o.type
  rw [D_size] at hrun
  simpa [execOp, hop, resolve, invoke, builtin, hm, hrun, Result.andThen] using hR
end steps
theorem look_hit {m : List (Int × Int)} {k v z : Int} (h : get m k = some v) : (get m k).getD z = v := by rw [h]; rfl
theorem elem_in {w : World} {A : Option Addr} {ad : Addr} {n j : Nat} {l : List Int} {k : Int} (h : Kd.C (Kd.int .i64) w A n l) (hk : l[j]? = some k) (hA : A = some ad) : w.cell? (ad.add j) = some (.int .i64 k) := by
  have hj : j < l.length := (List.getElem?_eq_some_iff.1 hk).1
  obtain ⟨ad', k', hA', hk', hx⟩ := elem_at h j hj
  rw [hA] at hA'
  obtain rfl := Option.some.inj hA'
  rw [hk] at hk'
  obtain rfl := Option.some.inj hk'
  exact hx
/-! Versions. -/
theorem F_get {f : Int → Int} {a : List Int} {k : Int} (h : k ∈ a) : get (mergeL f [] a) k = some (f k) := by
  rw [mergeL_get, get_nil]; simp [h]
theorem F_sorted (f : Int → Int) (a : List Int) : Sorted (mergeL f [] a) := mergeL_sorted f a [] List.Pairwise.nil
theorem F_mem {f : Int → Int} {a : List Int} {y : Int × Int} (h : y ∈ mergeL f [] a) : y.1 ∈ a ∧ y.2 = f y.1 := by
  have hg := get_of_mem (F_sorted f a) (k := y.1) (v := y.2) h
  rw [mergeL_get, get_nil] at hg
  by_cases hy : y.1 ∈ a
  · simp [hy] at hg; exact ⟨hy, hg.symm⟩
  · simp [hy] at hg
theorem F_mem_of {f : Int → Int} {a : List Int} {k : Int} (h : k ∈ a) : (k, f k) ∈ mergeL f [] a := mem_of_get (F_get h)
theorem F_fresh (f : Int → Int) (a : List Int) : ((mergeL f [] a).all fun y => decide (f y.1 = y.2)) = true :=
  List.all_eq_true.2 fun y hy => by rw [(F_mem hy).2]; simp
theorem F_later (f g : Int → Int) (a : List Int) : ((mergeL f [] a).all fun y => decide (g y.1 = y.2)) = a.all fun k => decide (f k = g k) := by
  rw [Bool.eq_iff_iff, List.all_eq_true, List.all_eq_true]
  constructor
  · intro h k hk
    have := h _ (F_mem_of (f := f) hk)
    simp at this
    simp [this]
  · intro h y hy
    obtain ⟨h1, h2⟩ := F_mem hy
    have := h _ h1
    simp at this
    simp [h2, this]
theorem merge_same {f : Int → Int} {l : List Int} : ∀ {m : List (Int × Int)}, (∀ k ∈ l, (get m k).isSome = true) → mergeL f m l = m := by
  induction l with
  | nil => intro m _; rfl
  | cons k r ih =>
    intro m h
    show mergeL f (if (get m k).isSome = true then m else put m k (f k)) r = m
    rw [if_pos (h k (List.mem_cons_self ..))]
    exact ih fun k hk => h k (List.mem_cons_of_mem _ hk)
theorem length_put_new {α : Type} {m : List (Int × α)} {k : Int} {v : α} (h : get m k = none) : (put m k v).length = m.length + 1 := by
  have hi : ∀ (x : Int × α) (l : List (Int × α)), (ins x l).length = l.length + 1 := by
    intro x l
    induction l with
    | nil => rfl
    | cons y r ih => unfold ins; split <;> simp [ih]
  have hd : del m k = m := by
    refine List.filter_eq_self.2 fun y hy => ?_
    by_cases hk : y.1 = k
    · exfalso
      clear hi
      subst hk
      induction m with
      | nil => cases hy
      | cons z r ih =>
        rw [get_cons] at h
        split at h
        · cases h
        · rename_i hz
          rcases List.mem_cons.1 hy with rfl | hy
          · exact hz rfl
          · exact ih hy h
    · simp [hk]
  unfold put
  rw [hi, hd]
theorem F_more (f g : Int → Int) (a : List Int) (x : Int) (h : get (mergeL f [] a) x = none) : get (mergeL g (mergeL f [] a) (x :: a)) x = some (g x) ∧ (mergeL g (mergeL f [] a) (x :: a)).length = (mergeL f [] a).length + 1 := by
  have e : mergeL g (mergeL f [] a) (x :: a) = put (mergeL f [] a) x (g x) := by
    show mergeL g (if (get (mergeL f [] a) x).isSome = true then mergeL f [] a else put (mergeL f [] a) x (g x)) a = _
    rw [if_neg (by rw [h]; simp)]
    exact merge_same fun k hk => by
      rw [get_put]
      split
      · rfl
      · rw [F_get hk]; rfl
  rw [e]
  exact ⟨by rw [get_put, if_pos rfl], length_put_new h⟩
theorem F_keep (f g : Int → Int) (a l : List Int) {k : Int} (h : k ∈ a) : get (mergeL g (mergeL f [] a) l) k = some (f k) := by
  rw [mergeL_get, F_get h]; rfl
theorem at_as {w : World} {A : Option Addr} {c : Nat} {l : List Int} (h : Tab w A c l) (k : Int) {v : Int} (hv : atF l k = v) : Calls Try.prog 10 #[.slice A l.length c, .int .i64 k] w fun e w' => e = .returned (.int .u64 v) ∧ Below w.heap.size w w' := by
  subst hv
  exact at_calls h k
theorem Fresh_as {w : World} {s : Nat} {m : List (Int × Int)} (hs : IsM ekU 3 w s m) {B : Option Addr} {d : Nat} {t : List Int} (ht : Tab w B d t) {q : Bool} (hq : (m.all fun y => decide (atF t y.1 = y.2)) = q) :
    Calls Try.prog 11 #[.map (some s), nowV B d t] w fun e w' => e = .returned (.bool q) ∧ Below w.heap.size w w' := by
  subst hq
  exact Fresh_calls hs ht
theorem Merge_as {w : World} {v : Value} {m : List (Int × Int)} (h : MvU w v m) (hml : m.length ≤ 1000) {A : Option Addr} {c : Nat} {l : List Int} (hr : Kd.C (Kd.int .i64) w A l.length l) (hl : l.length ≤ 1000) (hi : ∀ k ∈ l, okn k)
    {B : Option Addr} {d : Nat} {t : List Int} (ht : Tab w B d t) {m' : List (Int × Int)} (hm : mergeL (atF t) m l = m') :
    Calls Try.prog 8 #[v, .slice A l.length c, nowV B d t] w fun e w' => ∃ b, e = .returned (.map (some b)) ∧ w.heap.size ≤ b ∧ IsM ekU 3 w' b m' ∧ Below w.heap.size w w' := by
  subst hm
  exact Merge_calls h hml hr hl hi ht
theorem F_two (f : Int → Int) (a b : List Int) (k : Int) : get (mergeL f (mergeL f [] a) b) k = if k ∈ a ∨ k ∈ b then some (f k) else none := by
  rw [mergeL_get, mergeL_get, get_nil]
  by_cases h1 : k ∈ a
  · simp [h1]
  · by_cases h2 : k ∈ b <;> simp [h1, h2]
theorem merge_pack (f : Int → Int) (a b : List Int) (ha : a.length ≤ 60) (hb : b.length ≤ 60) : ∃ P1 P2 X : List (Int × Int), mergeL f [] a = P1 ∧ mergeL f [] b = P2 ∧ P1.length ≤ 1000 ∧ P2.length ≤ 1000 ∧ mergeL f P1 b = X ∧ mergeL f P2 a = X ∧ mergeL f X a = X ∧
    (∀ k v, get X k = some v → (k ∈ a ∨ k ∈ b)) ∧ Sorted X ∧ (X.all fun y => decide (f y.1 = y.2)) = true ∧ X.length ≤ 1000 := by
  have l1 := mergeL_len f a []
  have l2 := mergeL_len f b []
  have l3 := mergeL_len f b (mergeL f [] a)
  rw [List.length_nil] at l1 l2
  have s1 := mergeL_sorted f b _ (F_sorted f a)
  have s2 := mergeL_sorted f a _ (F_sorted f b)
  refine ⟨_, _, _, rfl, rfl, by omega, by omega, rfl, ?_, ?_, ?_, s1, ?_, by omega⟩
  · refine ext s2 s1 fun k => ?_
    rw [F_two, F_two]
    simp [or_comm]
  · exact merge_same fun k hk => by rw [F_two]; simp [hk]
  · intro k v h
    rw [F_two] at h
    by_cases hh : k ∈ a ∨ k ∈ b
    · exact hh
    · simp [hh] at h
  · refine List.all_eq_true.2 fun y hy => ?_
    have hg := get_of_mem s1 (k := y.1) (v := y.2) hy
    rw [F_two] at hg
    split at hg
    · simpa using hg
    · cases hg
theorem cut60 (l : List Int) : (if 60 < (l.length : Int) then (60 : Int) else (l.length : Int)).toNat = (l.take 60).length := by
  rw [List.length_take]; split <;> omega
theorem C_cut60 {w : World} {A : Option Addr} {l : List Int} (h : Kd.C (Kd.int .i64) w A l.length l) : Kd.C (Kd.int .i64) w A (l.take 60).length (l.take 60) := by
  by_cases hl : 60 ≤ l.length
  · exact Kd.C_take h hl
  · rw [List.take_of_length_le (by omega)]; exact h
theorem RHas_as {w : World} {A : Option Addr} {c : Nat} {l : List Int} (hr : Kd.C (Kd.int .i64) w A l.length l) (hc : l.length ≤ c) (hl : l.length ≤ 1000) (x : Int) {q : Bool} (hq : decide (x ∈ l) = q) :
    Calls Try.prog 12 #[.slice A l.length c, .int .i64 x] w fun e w' => e = .returned (.bool q) ∧ Below w.heap.size w w' := by
  subst hq
  exact RHas_calls hr hc hl x
end Go.Proofs.Ytoakfmdfajpejaa.Sets
