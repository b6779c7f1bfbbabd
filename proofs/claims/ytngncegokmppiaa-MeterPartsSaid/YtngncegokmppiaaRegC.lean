/- A region that draws its order, two of whose events stand in no order: walked in both. -/
import Derived.Test.YtngncegokmppiaaRegB
namespace Go.Proofs.Ytngncegokmppiaa.Reg
open Go
set_option linter.unusedVariables false
set_option linter.unusedSimpArgs false
section
variable {P : Program} {ops : Array Oper} {md : Region.Mode} {Inv : World → Prop} {ev : Nat → Bool} {Q : Act → World → Prop}
/-- What stands ahead of an operation is no matter to it, or is what it waits for. -/
def okp (md : Region.Mode) (ops : Array Oper) (ev : Nat → Bool) (i j : Nat) : Bool :=
  ((!(ev i && ev j)) && (match ops[i]?, ops[j]? with | some x, some y => x.apart ops y | _, _ => false)) || reach md ops ops.size j i
def depsB (md : Region.Mode) (ops : Array Oper) : Bool := Region.noSelect ops && (List.range ops.size).all fun j => (deps md ops j).all fun k => decide (k < j)
theorem least_of : ∀ (l : List Nat), l ≠ [] → ∃ m ∈ l, ∀ y ∈ l, m ≤ y
  | [], h => absurd rfl h
  | [x], _ => ⟨x, by simp, by simp⟩
  | x :: y :: t, _ => by
    obtain ⟨m, hm, h⟩ := least_of (y :: t) (by simp)
    by_cases hx : x ≤ m
    · exact ⟨x, by simp, fun z hz => by rcases List.mem_cons.1 hz with rfl | hz; exact Nat.le_refl _; exact Nat.le_trans hx (h z hz)⟩
    · exact ⟨m, List.mem_cons_of_mem _ hm, fun z hz => by rcases List.mem_cons.1 hz with rfl | hz; omega; exact h z hz⟩
theorem ready_in {L : List Nat} {listed : Array Bool} (hd : depsB md ops = true) (hsz : listed.size = ops.size) (hmem : ∀ i, i ∈ L ↔ i < ops.size ∧ listed.getD i false = false) (h0 : L ≠ []) : Region.ready md ops listed ≠ [] := by
  unfold depsB at hd
  simp only [Bool.and_eq_true, List.all_eq_true, List.mem_range, decide_eq_true_eq] at hd
  obtain ⟨m, hm, hle⟩ := least_of L h0
  obtain ⟨hi, hun⟩ := (hmem m).1 hm
  obtain ⟨o, ho⟩ : ∃ o, ops[m]? = some o := ⟨_, Array.getElem?_eq_getElem hi⟩
  have : m ∈ Region.ready md ops listed := mem_ready.2 ⟨by rw [getD_true_of (by omega)]; exact hun, o, ho, fun e he hb => by
    have hk := (mem_deps (md := md) ho).2 ⟨e, he, hb, rfl⟩
    have hlt := hd.2 m hi _ hk
    cases hc : listed.getD e.on false with
    | true => rfl
    | false =>
      have hm := (hmem e.on).2 ⟨by omega, hc⟩
      have := hle _ hm
      omega⟩
  intro h
  rw [h] at this
  cases this
theorem ready_of {L : List Nat} {listed : Array Bool} (hsz : listed.size = ops.size) (hmem : ∀ i, i ∈ L ↔ i < ops.size ∧ listed.getD i false = false) {j : Nat} (hj : j ∈ Region.ready md ops listed) : j ∈ L ∧ j < ops.size ∧ ∀ k ∈ deps md ops j, listed.getD k false = true := by
  obtain ⟨h0, o, ho, hall⟩ := mem_ready.1 hj
  have hlt := (Array.getElem?_eq_some_iff.1 ho).1
  refine ⟨(hmem j).2 ⟨hlt, by rw [getD_true_of (by omega)] at h0; exact h0⟩, hlt, fun k hk => ?_⟩
  obtain ⟨e, he, hb, rfl⟩ := (mem_deps ho).1 hk
  exact hall e he hb
theorem closed_set {listed : Array Bool} (hcl : Closed md ops listed) (hsz : listed.size = ops.size) {j : Nat} (hdeps : ∀ k ∈ deps md ops j, listed.getD k false = true) : Closed md ops (listed.setIfInBounds j true) := by
  intro k hk i hi
  by_cases hkj : j = k
  · subst hkj
    exact getD_set_true (hdeps i hi)
  · rw [getD_set_ne false hkj] at hk
    exact getD_set_true (hcl k hk i hi)
theorem mem_set {L1 L2 : List Nat} {j : Nat} {listed : Array Bool} (hn : (L1 ++ j :: L2).Nodup) (hsz : listed.size = ops.size) (hjs : j < ops.size) (hmem : ∀ i, i ∈ L1 ++ j :: L2 ↔ i < ops.size ∧ listed.getD i false = false) (i : Nat) : i ∈ L1 ++ L2 ↔ i < ops.size ∧ (listed.setIfInBounds j true).getD i false = false := by
  have hnj : j ∉ L1 ∧ j ∉ L2 := by
    rw [List.nodup_append] at hn
    exact ⟨fun h => hn.2.2 j h j (by simp) rfl, (List.nodup_cons.1 hn.2.1).1⟩
  by_cases hij : j = i
  · subst hij
    constructor
    · intro hm; simp only [List.mem_append] at hm; exact absurd hm (by simp [hnj.1, hnj.2])
    · rintro ⟨h1, h2⟩
      rw [show (listed.setIfInBounds j true).getD j false = true from by simp [hsz, hjs]] at h2
      cases h2
  · rw [getD_set_ne false hij, ← hmem i]
    simp only [List.mem_append, List.mem_cons]
    constructor
    · rintro (h | h)
      · exact .inl h
      · exact .inr (.inr h)
    · rintro (h | h | h)
      · exact .inl h
      · exact absurd h.symm hij
      · exact .inr h
/-- An operation that may be done next, done next. -/
theorem front_of (hns : Region.noSelect ops = true) {L1 L2 : List Nat} {j : Nat} {oj : Oper} (hoj : ops[j]? = some oj) {listed : Array Bool} (hcl : Closed md ops listed) (hdeps : ∀ k ∈ deps md ops j, listed.getD k false = true)
    (hx : ∀ x ∈ L1, listed.getD x false = false ∧ okp md ops ev x j = true) {a : Act} {w : World} (hw : Inv w) (h : wpC P ops Inv ev Q (L1 ++ j :: L2) a w) : wpC P ops Inv ev Q (j :: (L1 ++ L2)) a w := by
  have hsel := Region.noSelect_spec hns
  refine wpC_front hoj (fun i o cs b ho => hsel i o cs b ho) L1 L2 (fun x hxm => ?_) a w hw h
  obtain ⟨hun, hok⟩ := hx x hxm
  unfold okp at hok
  simp only [Bool.or_eq_true, Bool.and_eq_true, Bool.not_eq_true'] at hok
  rcases hok with ⟨h1, h2⟩ | hh
  · cases hox : ops[x]? with
    | none => rw [hox] at h2; cases h2
    | some ox =>
      rw [hox, hoj] at h2
      refine ⟨ox, rfl, h2, fun he => ?_⟩
      rw [he.1, he.2] at h1
      cases h1
  · have := reach_listed hcl _ _ _ hdeps hh
    rw [hun] at this
    cases this
theorem wpE_one (hd : depsB md ops = true) : ∀ (n : Nat) (L : List Nat) (listed : Array Bool) (a : Act) (w : World), L.length = n → L.Nodup → listed.size = ops.size → (∀ i, i ∈ L ↔ i < ops.size ∧ listed.getD i false = false) → Closed md ops listed → L.Pairwise (fun x j => okp md ops ev x j = true) → Inv w →
    wpC P ops Inv ev Q L a w → wpE P md ops Inv Q n listed a w := by
  have hns : Region.noSelect ops = true := by unfold depsB at hd; simp only [Bool.and_eq_true] at hd; exact hd.1
  intro n
  induction n with
  | zero =>
    intro L listed a w hl hn hsz hmem _ _ _ h
    have : L = [] := List.eq_nil_of_length_eq_zero hl
    subst this
    refine ⟨?_, h⟩
    refine List.eq_nil_iff_forall_not_mem.2 fun i hi => ?_
    have := (ready_of hsz hmem hi).1
    cases this
  | succ n ih =>
    intro L listed a w hl hn hsz hmem hcl hpw hw h
    refine ⟨ready_in hd hsz hmem (by intro h0; rw [h0] at hl; cases hl), fun j hj => ?_⟩
    obtain ⟨hjl, hjs, hdeps⟩ := ready_of hsz hmem hj
    obtain ⟨oj, hoj⟩ : ∃ o, ops[j]? = some o := ⟨_, Array.getElem?_eq_getElem hjs⟩
    obtain ⟨L1, L2, rfl⟩ := List.append_of_mem hjl
    have hpw' := List.pairwise_append.1 hpw
    have hf := front_of hns hoj hcl hdeps (fun x hx => ⟨((hmem x).1 (by simp [hx])).2, hpw'.2.2 x hx j (by simp)⟩) hw h
    refine ⟨oj, hoj, ?_⟩
    have hstep : ∀ a' w', Inv w' → wpC P ops Inv ev Q (L1 ++ L2) a' w' → wpE P md ops Inv Q n (listed.setIfInBounds j true) a' w' := by
      intro a' w' hw' hk
      refine ih (L1 ++ L2) _ a' w' (by simp at hl ⊢; omega) (hn.sublist (by simp)) (by simp [hsz]) (fun i => mem_set hn hsz hjs hmem i) (closed_set hcl hsz hdeps) (hpw.sublist (by simp)) hw' hk
    simp only [wpC] at hf
    obtain ⟨o, ho, hf⟩ := hf
    rw [hoj] at ho
    obtain rfl := Option.some.inj ho
    split at hf
    · exact opE_mono (fun a' w' _ hk => hstep a' w' hk.1 hk.2) hf
    · obtain ⟨v, hl, hk⟩ := hf
      exact hl.opE hw (hstep _ _ hw hk)
theorem wpE_two (hd : depsB md ops = true) (p q : Nat) (hev : ∀ j, j < ops.size → ev j = true → j = p ∨ j = q ∨ reach md ops ops.size j p = true ∨ reach md ops ops.size j q = true) : ∀ (n : Nat) (L M : List Nat) (listed : Array Bool) (a : Act) (w : World), L.length = n → L.Nodup → M.length = n → M.Nodup → listed.size = ops.size → (∀ i, i ∈ L ↔ i < ops.size ∧ listed.getD i false = false) → (∀ i, i ∈ M ↔ i < ops.size ∧ listed.getD i false = false) → p ∈ L → q ∈ L → Closed md ops listed →
    L.Pairwise (fun x j => okp md ops ev x j = true ∨ (x = p ∧ j = q)) → M.Pairwise (fun x j => okp md ops ev x j = true ∨ (x = q ∧ j = p)) → p ≠ q → Inv w → wpC P ops Inv ev Q L a w → wpC P ops Inv ev Q M a w → wpE P md ops Inv Q n listed a w := by
  have hns : Region.noSelect ops = true := by unfold depsB at hd; simp only [Bool.and_eq_true] at hd; exact hd.1
  intro n
  induction n with
  | zero =>
    intro L M listed a w hl _ _ _ _ _ _ hp
    have : L = [] := List.eq_nil_of_length_eq_zero hl
    subst this
    cases hp
  | succ n ih =>
    intro L M listed a w hl hn hlM hnM hsz hmem hmemM hp hq hcl hpw hpwM hpq hw h hM
    refine ⟨ready_in hd hsz hmem (by intro h0; rw [h0] at hl; cases hl), fun j hj => ?_⟩
    obtain ⟨hjl, hjs, hdeps⟩ := ready_of hsz hmem hj
    obtain ⟨oj, hoj⟩ : ∃ o, ops[j]? = some o := ⟨_, Array.getElem?_eq_getElem hjs⟩
    obtain ⟨L1, L2, rfl⟩ := List.append_of_mem hjl
    obtain ⟨M1, M2, rfl⟩ := List.append_of_mem ((hmemM j).2 ((hmem j).1 hjl))
    have hpw' := List.pairwise_append.1 hpw
    have hpwM' := List.pairwise_append.1 hpwM
    refine ⟨oj, hoj, ?_⟩
    by_cases hjq : j = q
    · -- the second one first: the other list
      have hjp : j ≠ p := fun h_ => hpq (by rw [← h_, hjq])
      have hf := front_of hns hoj hcl hdeps (fun x hx => ⟨((hmemM x).1 (by simp [hx])).2, (hpwM'.2.2 x hx j (by simp)).elim id (fun h_ => absurd h_.2 hjp)⟩) hw hM
      have hgood : (M1 ++ M2).Pairwise (fun x j => okp md ops ev x j = true) := by
        refine (hpwM.sublist (by simp : (M1 ++ M2).Sublist (M1 ++ j :: M2))).imp_of_mem (fun {x y} hx hy hxy => hxy.elim id (fun h_ => ?_))
        exfalso
        rw [List.nodup_append] at hnM
        rcases List.mem_append.1 hx with hx | hx
        · exact hnM.2.2 x hx j (by simp) (by rw [h_.1, hjq])
        · exact (List.nodup_cons.1 hnM.2.1).1 (by rw [hjq, ← h_.1]; exact hx)
      have hstep : ∀ a' w', Inv w' → wpC P ops Inv ev Q (M1 ++ M2) a' w' → wpE P md ops Inv Q n (listed.setIfInBounds j true) a' w' := fun a' w' hw' hk =>
        wpE_one hd n (M1 ++ M2) _ a' w' (by simp at hlM ⊢; omega) (hnM.sublist (by simp)) (by simp [hsz]) (fun i => mem_set hnM hsz hjs hmemM i) (closed_set hcl hsz hdeps) hgood hw' hk
      simp only [wpC] at hf
      obtain ⟨o, ho, hf⟩ := hf
      rw [hoj] at ho
      obtain rfl := Option.some.inj ho
      split at hf
      · exact opE_mono (fun a' w' _ hk => hstep a' w' hk.1 hk.2) hf
      · obtain ⟨v, hl, hk⟩ := hf
        exact hl.opE hw (hstep _ _ hw hk)
    · have hf := front_of hns hoj hcl hdeps (fun x hx => ⟨((hmem x).1 (by simp [hx])).2, (hpw'.2.2 x hx j (by simp)).elim id (fun h_ => absurd h_.2 hjq)⟩) hw h
      by_cases hjp : j = p
      · have hgood : (L1 ++ L2).Pairwise (fun x j => okp md ops ev x j = true) := by
          refine (hpw.sublist (by simp : (L1 ++ L2).Sublist (L1 ++ j :: L2))).imp_of_mem (fun {x y} hx hy hxy => hxy.elim id (fun h_ => ?_))
          exfalso
          rw [List.nodup_append] at hn
          rcases List.mem_append.1 hx with hx | hx
          · exact hn.2.2 x hx j (by simp) (by rw [h_.1, hjp])
          · exact (List.nodup_cons.1 hn.2.1).1 (by rw [hjp, ← h_.1]; exact hx)
        have hstep : ∀ a' w', Inv w' → wpC P ops Inv ev Q (L1 ++ L2) a' w' → wpE P md ops Inv Q n (listed.setIfInBounds j true) a' w' := fun a' w' hw' hk =>
          wpE_one hd n (L1 ++ L2) _ a' w' (by simp at hl ⊢; omega) (hn.sublist (by simp)) (by simp [hsz]) (fun i => mem_set hn hsz hjs hmem i) (closed_set hcl hsz hdeps) hgood hw' hk
        simp only [wpC] at hf
        obtain ⟨o, ho, hf⟩ := hf
        rw [hoj] at ho
        obtain rfl := Option.some.inj ho
        split at hf
        · exact opE_mono (fun a' w' _ hk => hstep a' w' hk.1 hk.2) hf
        · obtain ⟨v, hl, hk⟩ := hf
          exact hl.opE hw (hstep _ _ hw hk)
      · have hfM := front_of hns hoj hcl hdeps (fun x hx => ⟨((hmemM x).1 (by simp [hx])).2, (hpwM'.2.2 x hx j (by simp)).elim id (fun h_ => absurd h_.2 hjp)⟩) hw hM
        have hpu := ((hmem p).1 hp).2
        have hqu := ((hmem q).1 hq).2
        have hnev : ¬ ev j = true := fun he => by
          rcases hev j hjs he with h_ | h_ | h_ | h_
          · exact hjp h_
          · exact hjq h_
          · have := reach_listed hcl _ _ _ hdeps h_
            rw [hpu] at this; cases this
          · have := reach_listed hcl _ _ _ hdeps h_
            rw [hqu] at this; cases this
        simp only [wpC] at hf hfM
        obtain ⟨o, ho, hf⟩ := hf
        obtain ⟨o', ho', hfM⟩ := hfM
        rw [hoj] at ho ho'
        obtain rfl := Option.some.inj ho
        obtain rfl := Option.some.inj ho'
        rw [if_neg hnev] at hf hfM
        obtain ⟨v, hl1, hk⟩ := hf
        obtain ⟨v', hl2, hkM⟩ := hfM
        obtain rfl := Loc.uniq hw hl1 hl2
        have pin : ∀ z, z ≠ j → z ∈ L1 ++ j :: L2 → z ∈ L1 ++ L2 := fun z hz hm => by
          simp only [List.mem_append, List.mem_cons] at hm ⊢
          rcases hm with h_ | h_ | h_
          · exact .inl h_
          · exact absurd h_ hz
          · exact .inr h_
        refine hl1.opE hw (ih (L1 ++ L2) (M1 ++ M2) _ _ _ (by simp at hl ⊢; omega) (hn.sublist (by simp)) (by simp at hlM ⊢; omega) (hnM.sublist (by simp)) (by simp [hsz]) (fun i => mem_set hn hsz hjs hmem i) (fun i => mem_set hnM hsz hjs hmemM i) (pin p (fun h_ => hjp h_.symm) hp) (pin q (fun h_ => hjq h_.symm) hq) (closed_set hcl hsz hdeps) (hpw.sublist (by simp)) (hpwM.sublist (by simp)) hpq hw hk hkM)
/-- The look at a region's text: two events p and q in no order; M: the places with q ahead of p. -/
def fits2 (md : Region.Mode) (ops : Array Oper) (ev : Nat → Bool) (p q : Nat) (M : List Nat) : Bool :=
  depsB md ops && (List.range ops.size).all (fun j => !(ev j) || j == p || j == q || reach md ops ops.size j p || reach md ops ops.size j q) && decide (M.length = ops.size) && decide M.Nodup && (M.all (fun i => decide (i < ops.size)) && (List.range ops.size).all (fun i => M.contains i)) && decide (p < ops.size) && decide (q < ops.size) && decide (p ≠ q) &&
  decide ((List.range ops.size).Pairwise (fun x j => okp md ops ev x j = true ∨ (x = p ∧ j = q))) && decide (M.Pairwise (fun x j => okp md ops ev x j = true ∨ (x = q ∧ j = p)))
/-- THE REGION, walked twice. -/
theorem wp_region_two {id : Nat} {Q : Exit → Act → World → Prop} {a : Act} {w : World} {l : List Oper} (Inv : World → Prop) (ev : Nat → Bool) (p q : Nat) (M : List Nat) (hm : P.follows .mixedOrders = true) (hf : fits2 .any l.toArray ev p q M = true) (hw : Inv w.drew)
    (h : wpS P l.toArray Inv ev (fun a w => Q .normal a w) l 0 a w.drew) (hcM : wpC P l.toArray Inv ev (fun a w => Q .normal a w) M a w.drew) : (Code.region id l.toArray true).wp P Q a w := by
  unfold fits2 at hf
  simp only [Bool.and_eq_true, List.all_eq_true, decide_eq_true_eq, List.mem_range, Bool.or_eq_true, beq_iff_eq, Bool.not_eq_true'] at hf
  obtain ⟨⟨⟨⟨⟨⟨⟨⟨⟨h1, h3⟩, h4⟩, h5⟩, ⟨h6, h6'⟩⟩, h7⟩, h8⟩, h9⟩, h10⟩, h11⟩ := hf
  refine wp_region_any hm ?_
  have hc := wpC_of_S l 0 a w.drew (fun j => by simp) h
  refine wpAny_of_E (Inv := Inv) (Q := fun a w => Q .normal a w) (fun _ _ h => h) _ _ _ _ ?_
  have hr : ∀ i, i ∈ M ↔ i < l.toArray.size := fun i => ⟨h6 i, fun hi => List.contains_iff_mem.1 (h6' i hi)⟩
  refine wpE_two h1 p q (fun j hj he => ?_) l.toArray.size (List.range l.toArray.size) M _ a _ (by simp) List.nodup_range h4 h5 (by simp) (fun i => ?_) (fun i => ?_) (List.mem_range.2 h7) (List.mem_range.2 h8) (fun j hj => ?_) h10 h11 h9 hw (by rw [List.range_eq_range']; rw [List.size_toArray]; exact hc) hcM
  · rcases h3 j hj with (((h_ | h_) | h_) | h_) | h_
    · rw [he] at h_; cases h_
    · exact .inl h_
    · exact .inr (.inl h_)
    · exact .inr (.inr (.inl h_))
    · exact .inr (.inr (.inr h_))
  · rw [List.mem_range, getD_replicate_false]
    simp
  · rw [hr i, getD_replicate_false]
    simp
  · rw [getD_replicate_false] at hj
    cases hj
def nthO : List Oper → Nat → Option Oper
  | [], _ => none
  | a :: _, 0 => some a
  | _ :: t, n + 1 => nthO t n
theorem nthO_eq : ∀ (l : List Oper) (i : Nat), nthO l i = l.toArray[i]?
  | [], i => by simp [nthO]
  | a :: t, 0 => by simp [nthO]
  | a :: t, n + 1 => by
    have := nthO_eq t n
    simp [nthO] at this ⊢
    exact this
section
variable {l : List Oper}
theorem C_nil {a : Act} {w : World} (h : Q a w) : wpC P l.toArray Inv ev Q [] a w := h
theorem C_val {i : Nat} {r : List Nat} {a : Act} {w : World} {o : Oper} {v : Value} (ho : nthO l i = some o) (he : ev i = false) (hw : Region.wanted o (yielded l.toArray a.tmps) = true) (hv : ∀ W, Inv W → ∀ R : Result Next → Prop, R (.ok (.value v) W) → R ((execOp a.eval o).run P W))
    (h : wpC P l.toArray Inv ev Q r (a.put o.dst v) w) : wpC P l.toArray Inv ev Q (i :: r) a w := by
  refine ⟨o, by rw [← nthO_eq]; exact ho, ?_⟩
  rw [if_neg (by rw [he]; simp)]
  exact ⟨v, fun W hW => .inl ⟨hw, .inl (hv W hW (fun x => x = .ok (.value v) W) rfl)⟩, h⟩
theorem C_make {i : Nat} {r : List Nat} {a : Act} {w w' : World} {o : Oper} {v : Value} (ho : nthO l i = some o) (he : ev i = true) (hw : Region.wanted o (yielded l.toArray a.tmps) = true) (hx : (execOp a.eval o).run P w = .ok (.value v) w') (hi : Inv w')
    (h : wpC P l.toArray Inv ev Q r (a.put o.dst v) w') : wpC P l.toArray Inv ev Q (i :: r) a w := by
  refine ⟨o, by rw [← nthO_eq]; exact ho, ?_⟩
  rw [if_pos he]
  unfold opE
  rw [if_pos hw]
  unfold Oper.wp
  rw [hx]
  exact ⟨hi, hi, h⟩
theorem C_list {i : Nat} {r : List Nat} {a : Act} {w : World} {o : Oper} (ho : nthO l i = some o) (he : ev i = true) (hw : Region.wanted o (yielded l.toArray a.tmps) = true)
    (h : wpList P l.toArray (fun e a w => e = .normal ∧ Inv w ∧ wpC P l.toArray Inv ev Q r a w) [o] a w) : wpC P l.toArray Inv ev Q (i :: r) a w := by
  refine ⟨o, by rw [← nthO_eq]; exact ho, ?_⟩
  rw [if_pos he]
  unfold opE
  rw [if_pos hw]
  unfold wpList at h
  rw [if_pos hw] at h
  rcases h with h | ⟨_, hl⟩
  · exact wp_only (fun e a w h => h.1) (fun a' w' hk => ⟨hk.2.1, hk.2.1, hk.2.2⟩) h
  · exfalso
    obtain ⟨a0, w0, h0⟩ := hl
    cases h0.1
theorem C_end {r : List Nat} {a : Act} {w : World} (hi : Inv w) (h : wpC P l.toArray Inv ev Q r a w) : wpList P l.toArray (fun e a w => e = .normal ∧ Inv w ∧ wpC P l.toArray Inv ev Q r a w) [] a w := ⟨rfl, hi, h⟩
end
end
end Go.Proofs.Ytngncegokmppiaa.Reg
