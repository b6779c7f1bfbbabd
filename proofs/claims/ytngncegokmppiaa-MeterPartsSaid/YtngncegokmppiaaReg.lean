/- A region that draws its order and holds calls: one walk in the order of the text, where what stands beside the calls looks at no memory that turns. -/
import Derived.StillTail
namespace Go.Proofs.Ytngncegokmppiaa.Reg
open Go
set_option linter.unusedVariables false
set_option linter.unusedSimpArgs false
section
variable {P : Program} {ops : Array Oper} {md : Region.Mode} {Inv : World → Prop}
def noQ : Exit → Act → World → Prop := fun _ _ _ => False
/-- An operation yields v, in every world that is so. -/
def Loc (P : Program) (ops : Array Oper) (Inv : World → Prop) (o : Oper) (v : Value) (a : Act) : Prop := ∀ W, Inv W →
  (Region.wanted o (yielded ops a.tmps) = true ∧ ((execOp a.eval o).run P W = .ok (.value v) W ∨ ((execOp a.eval o).run P W = .ok .skip W ∧ v = undef))) ∨
  (Region.wanted o (yielded ops a.tmps) = false ∧ v = undef)
/-- An operation, whatever it does. -/
def opE (P : Program) (ops : Array Oper) (Inv : World → Prop) (o : Oper) (K : Act → World → Prop) (a : Act) (w : World) : Prop :=
  if Region.wanted o (yielded ops a.tmps) = true then o.wp P a w (fun a' w' => Inv w' ∧ K a' w') noQ else K (a.put o.dst undef) w
theorem act_eval_tmps {a a' : Act} (h : a'.tmps = a.tmps) : a'.eval = a.eval := by
  funext x
  cases x <;> simp [Act.eval, h]
theorem Loc.of_tmps {o : Oper} {v : Value} {a a' : Act} (h : a'.tmps = a.tmps) (hl : Loc P ops Inv o v a) : Loc P ops Inv o v a' := by
  intro W hW
  have := hl W hW
  rw [act_eval_tmps h, h]
  exact this
theorem Loc.put {o o' : Oper} (hs : ∀ cs b, o.op ≠ .select cs b) {v : Value} {a : Act} {d : Option Tmp} (u : Value) (hd : ∀ t, d = some t → t ∉ o.looksAt ops) : Loc P ops Inv o v (a.put d u) ↔ Loc P ops Inv o v a := by
  unfold Loc
  rw [execOp_put (ops := ops) o hs a d u hd, wanted_put o a d u hd]
theorem Loc.uniq {o : Oper} {v v' : Value} {a : Act} {w : World} (hw : Inv w) (h : Loc P ops Inv o v a) (h' : Loc P ops Inv o v' a) : v = v' := by
  rcases h w hw with ⟨h1, h2⟩ | ⟨h1, h2⟩ <;> rcases h' w hw with ⟨h1', h2'⟩ | ⟨h1', h2'⟩
  · rcases h2 with h2 | ⟨h2, rfl⟩ <;> rcases h2' with h2' | ⟨h2', rfl⟩ <;> rw [h2] at h2' <;> cases h2' <;> rfl
  · rw [h1] at h1'; cases h1'
  · rw [h1] at h1'; cases h1'
  · rw [h2, h2']
theorem Loc.opE {o : Oper} {v : Value} {a : Act} {w : World} {K : Act → World → Prop} (hw : Inv w) (h : Loc P ops Inv o v a) (hK : K (a.put o.dst v) w) : opE P ops Inv o K a w := by
  unfold Reg.opE
  rcases h w hw with ⟨h1, h2⟩ | ⟨h1, rfl⟩
  · rw [if_pos h1]
    unfold Oper.wp
    rcases h2 with h2 | ⟨h2, rfl⟩
    · rw [h2]; exact ⟨hw, hK⟩
    · rw [h2]; exact ⟨hw, hK⟩
  · rw [if_neg (by rw [h1]; simp)]
    exact hK
/-- What an operation leaves in the frame: one slot, and maybe calls that are put off. -/
def Left (o : Oper) (a a' : Act) : Prop := ∃ u, a'.tmps = (a.put o.dst u).tmps
theorem wp_mono {o : Oper} {a : Act} {w : World} {K K' : Act → World → Prop} {Q Q' : Exit → Act → World → Prop} (hq : ∀ e a w, Q e a w → Q' e a w) (h : ∀ a' w', Left o a a' → K a' w' → K' a' w') (hh : o.wp P a w K Q) : o.wp P a w K' Q' := by
  unfold Oper.wp at *
  generalize (execOp a.eval o).run P w = r at *
  cases r with
  | ok n w' =>
    cases n <;> simp only [Oper.upon] at hh ⊢
    case value u => exact h _ _ ⟨u, rfl⟩ hh
    case skip => exact h _ _ ⟨undef, rfl⟩ hh
    case defer d => exact h _ _ ⟨undef, by cases o.dst <;> rfl⟩ hh
    case enter f args =>
      refine hh.mono fun e w'' he => ?_
      cases e with
      | returned v => exact h _ _ ⟨v, rfl⟩ he
      | panicked ch => exact hq _ _ _ he
      | outgrown => obtain ⟨a0, w0, h0⟩ := he; exact ⟨a0, w0, hq _ _ _ h0⟩
    case row rw_ args => exact hh.mono fun v w'' hv => h _ _ ⟨v, rfl⟩ hv
  | halt x w' =>
    cases x <;> simp only [Oper.upon] at hh ⊢
    case panic v => exact hq _ _ _ hh
theorem opE_mono {o : Oper} {a : Act} {w : World} {K K' : Act → World → Prop} (h : ∀ a' w', Left o a a' → K a' w' → K' a' w') (hh : opE P ops Inv o K a w) : opE P ops Inv o K' a w := by
  unfold opE at *
  split
  · rename_i hw
    rw [if_pos hw] at hh
    exact wp_mono (fun _ _ _ h => h) (fun a' w' hl hk => ⟨hk.1, h a' w' hl hk.2⟩) hh
  · rename_i hw
    rw [if_neg hw] at hh
    exact h _ _ ⟨undef, rfl⟩ hh
/-- An operation comes to something. -/
theorem opE_some {o : Oper} {a : Act} {w : World} {K : Act → World → Prop} (hh : opE P ops Inv o K a w) : ∃ a' w', Left o a a' ∧ K a' w' := by
  unfold opE at hh
  split at hh
  · unfold Oper.wp at hh
    generalize (execOp a.eval o).run P w = r at hh
    cases r with
    | ok n w' =>
      cases n <;> simp only [Oper.upon] at hh
      case value u => exact ⟨_, _, ⟨u, rfl⟩, hh.2⟩
      case skip => exact ⟨_, _, ⟨undef, rfl⟩, hh.2⟩
      case defer d => exact ⟨_, _, ⟨undef, by cases o.dst <;> rfl⟩, hh.2⟩
      case enter f args =>
        obtain ⟨e, w', fr, hR, _⟩ := hh []
        cases e with
        | returned v => exact ⟨_, _, ⟨v, rfl⟩, hR.2⟩
        | panicked ch => exact hR.elim
        | outgrown => obtain ⟨_, _, h0⟩ := hR; exact h0.elim
      case row rw_ args =>
        obtain ⟨v, w', hR, _⟩ := hh default []
        exact ⟨_, _, ⟨v, rfl⟩, hR.2⟩
    | halt x w' => cases x <;> simp only [Oper.upon] at hh <;> exact hh.elim
  · exact ⟨_, _, ⟨undef, rfl⟩, hh⟩
theorem put_defers (a : Act) (ds : List Deferred) (d : Option Tmp) (v : Value) : ({ a with defers := ds }.put d v) = { (a.put d v) with defers := ds } := by cases d <;> rfl
/-- A slot that the operation does not look at may be filled before or behind it. -/
theorem opE_put {o : Oper} (hs : ∀ cs b, o.op ≠ .select cs b) {a : Act} {w : World} {K : Act → World → Prop} {d : Option Tmp} (v : Value) (hd : ∀ t, d = some t → t ∉ o.looksAt ops) (hne : ∀ t, d = some t → o.dst ≠ some t) :
    opE P ops Inv o K (a.put d v) w ↔ opE P ops Inv o (fun a' w' => K (a'.put d v) w') a w := by
  unfold opE
  rw [wanted_put o a d v hd]
  have hc : ∀ (a : Act) u, (a.put d v).put o.dst u = (a.put o.dst u).put d v := fun a u => Act.put_comm a v u hne
  split
  · unfold Oper.wp
    rw [execOp_put (ops := ops) o hs a d v hd]
    generalize (execOp a.eval o).run P w = r
    cases r with
    | ok n w' =>
      cases n <;> simp only [Oper.upon]
      case value u => rw [hc]
      case skip => rw [hc]
      case defer dd =>
        have e : ({ (a.put d v) with defers := dd :: (a.put d v).defers } : Act).put o.dst undef = (({ a with defers := dd :: a.defers } : Act).put o.dst undef).put d v := by
          have h := congrArg Act.tmps (hc a undef)
          revert h
          cases d <;> cases o.dst <;> simp [Act.put]
        rw [e]
      case enter f args => simp only [hc]; exact Iff.rfl
      case row rw_ args => simp only [hc]
    | halt x w' => cases x <;> simp only [Oper.upon] <;> exact Iff.rfl
  · rw [hc]

/-- The walk in the order of the text. ev: which operations are events (calls, and what makes or writes memory). -/
def wpC (P : Program) (ops : Array Oper) (Inv : World → Prop) (ev : Nat → Bool) (Q : Act → World → Prop) : List Nat → Act → World → Prop
  | [], a, w => Q a w
  | i :: r, a, w => ∃ o, ops[i]? = some o ∧ if ev i = true then opE P ops Inv o (fun a' w' => Inv w' ∧ wpC P ops Inv ev Q r a' w') a w else ∃ v, Loc P ops Inv o v a ∧ wpC P ops Inv ev Q r (a.put o.dst v) w
variable {ev : Nat → Bool} {Q : Act → World → Prop}
theorem wpC_swap {x j : Nat} {ox oj : Oper} (hx : ops[x]? = some ox) (hj : ops[j]? = some oj) (hsx : ∀ cs b, ox.op ≠ .select cs b) (hsj : ∀ cs b, oj.op ≠ .select cs b) (hap : ox.apart ops oj = true) (hev : ¬ (ev x = true ∧ ev j = true)) {r : List Nat} {a : Act} {w : World} (hw : Inv w)
    (h : wpC P ops Inv ev Q (x :: j :: r) a w) : wpC P ops Inv ev Q (j :: x :: r) a w := by
  obtain ⟨p1, p2, p3⟩ := Oper.apart_spec hap
  have p2' : ∀ d, oj.dst = some d → ox.dst ≠ some d := fun d hd he => p2 d he hd
  simp only [wpC] at h ⊢
  obtain ⟨o1, e1, h⟩ := h
  rw [hx] at e1
  obtain rfl := Option.some.inj e1
  refine ⟨oj, hj, ?_⟩
  by_cases ex : ev x = true
  · have ej : ¬ ev j = true := fun h => hev ⟨ex, h⟩
    rw [if_pos ex] at h
    rw [if_neg ej]
    simp only [if_neg ej] at h
    obtain ⟨a1, w1, ⟨u, hu⟩, h1, o2, e2, vj, hl, _⟩ := opE_some h
    rw [hj] at e2
    obtain rfl := Option.some.inj e2
    have hla : Loc P ops Inv oj vj a := (Loc.put (o' := oj) hsj u p1).1 (hl.of_tmps hu.symm)
    refine ⟨vj, hla, ox, hx, ?_⟩
    rw [if_pos ex]
    rw [opE_put hsx vj p3 p2']
    refine opE_mono (fun a' w' hleft hk => ?_) h
    obtain ⟨hi, o3, e3, v3, hl3, hk3⟩ := hk
    rw [hj] at e3
    obtain rfl := Option.some.inj e3
    obtain ⟨u', hu'⟩ := hleft
    have hl3a : Loc P ops Inv oj v3 a := (Loc.put (o' := oj) hsj u' p1).1 (hl3.of_tmps hu'.symm)
    have := Loc.uniq hw hla hl3a
    subst this
    exact ⟨hi, hk3⟩
  · rw [if_neg ex] at h
    obtain ⟨vx, hlx, o2, e2, h⟩ := h
    rw [hj] at e2
    obtain rfl := Option.some.inj e2
    by_cases ej : ev j = true
    · rw [if_pos ej] at h ⊢
      rw [opE_put hsj vx p1 p2] at h
      refine opE_mono (fun a' w' hleft hk => ⟨hk.1, ox, hx, ?_⟩) h
      rw [if_neg ex]
      obtain ⟨u, hu⟩ := hleft
      exact ⟨vx, ((Loc.put (o' := ox) hsx u p3).2 hlx).of_tmps hu, hk.2⟩
    · rw [if_neg ej] at h ⊢
      obtain ⟨vj, hlj, hk⟩ := h
      refine ⟨vj, (Loc.put (o' := oj) hsj vx p1).1 hlj, ox, hx, ?_⟩
      rw [if_neg ex]
      refine ⟨vx, (Loc.put (o' := ox) hsx vj p3).2 hlx, ?_⟩
      rw [← Act.put_comm a vx vj p2]
      exact hk
/-- Whatever is done first, the rest can be done behind it. -/
theorem wpC_cons_mono {i : Nat} {r r' : List Nat} (h : ∀ a w, Inv w → wpC P ops Inv ev Q r a w → wpC P ops Inv ev Q r' a w) {a : Act} {w : World} (hw : Inv w) (hh : wpC P ops Inv ev Q (i :: r) a w) : wpC P ops Inv ev Q (i :: r') a w := by
  simp only [wpC] at hh ⊢
  obtain ⟨o, ho, hh⟩ := hh
  refine ⟨o, ho, ?_⟩
  split
  · rename_i he
    rw [if_pos he] at hh
    exact opE_mono (fun a' w' _ hk => ⟨hk.1, h a' w' hk.1 hk.2⟩) hh
  · rename_i he
    rw [if_neg he] at hh
    obtain ⟨v, hl, hk⟩ := hh
    exact ⟨v, hl, h _ _ hw hk⟩
theorem wpC_front {j : Nat} {oj : Oper} (hj : ops[j]? = some oj) (hsel : ∀ (i : Nat) (o : Oper) cs b, ops[i]? = some o → o.op ≠ .select cs b) : ∀ (l1 : List Nat) (r : List Nat),
    (∀ x ∈ l1, ∃ ox, ops[x]? = some ox ∧ ox.apart ops oj = true ∧ ¬ (ev x = true ∧ ev j = true)) → ∀ (a : Act) (w : World), Inv w → wpC P ops Inv ev Q (l1 ++ j :: r) a w → wpC P ops Inv ev Q (j :: (l1 ++ r)) a w
  | [], r, _, a, w, _, h => h
  | x :: l1, r, hx, a, w, hw, h => by
    have h1 : wpC P ops Inv ev Q (x :: j :: (l1 ++ r)) a w := wpC_cons_mono (fun a' w' hw' h' => wpC_front hj hsel l1 r (fun y hy => hx y (by simp [hy])) a' w' hw' h') hw h
    obtain ⟨ox, e1, e2, e3⟩ := hx x (by simp)
    exact wpC_swap e1 hj (fun cs b => hsel _ _ cs b e1) (fun cs b => hsel _ _ cs b hj) e2 e3 hw h1
/-- A reaches what it waits for. -/
def deps (md : Region.Mode) (ops : Array Oper) (j : Nat) : List Nat := match ops[j]? with
  | some o => (o.after.toList.filter fun e => Region.binds md e).map (·.on)
  | none => []
def reach (md : Region.Mode) (ops : Array Oper) : Nat → Nat → Nat → Bool
  | 0, _, _ => false
  | n + 1, j, i => (deps md ops j).contains i || (deps md ops j).any fun k => decide (i < k) && reach md ops n k i
def Closed (md : Region.Mode) (ops : Array Oper) (listed : Array Bool) : Prop := ∀ j, listed.getD j false = true → ∀ i ∈ deps md ops j, listed.getD i false = true
theorem reach_listed {listed : Array Bool} (hc : Closed md ops listed) : ∀ (n j i : Nat), (∀ k ∈ deps md ops j, listed.getD k false = true) → reach md ops n j i = true → listed.getD i false = true
  | 0, _, _, _, h => by cases h
  | n + 1, j, i, hj, h => by
    simp only [reach, Bool.or_eq_true, List.any_eq_true, Bool.and_eq_true] at h
    rcases h with h | ⟨k, hk, _, hr⟩
    · exact hj i (List.contains_iff_mem.1 h)
    · exact reach_listed hc n k i (hc k (hj k hk)) hr
/-- The look at a region's text. -/
def fits (md : Region.Mode) (ops : Array Oper) (ev : Nat → Bool) : Bool :=
  Region.noSelect ops && (List.range ops.size).all fun j => (deps md ops j).all (fun k => decide (k < j)) && (List.range j).all fun i =>
    ((!(ev i && ev j)) && (match ops[i]?, ops[j]? with | some x, some y => x.apart ops y | _, _ => false)) || reach md ops ops.size j i
def wpE (P : Program) (md : Region.Mode) (ops : Array Oper) (Inv : World → Prop) (Q : Act → World → Prop) : Nat → Array Bool → Act → World → Prop
  | 0, listed, a, w => Region.ready md ops listed = [] ∧ Q a w
  | n + 1, listed, a, w => Region.ready md ops listed ≠ [] ∧ ∀ i ∈ Region.ready md ops listed, ∃ o, ops[i]? = some o ∧ opE P ops Inv o (wpE P md ops Inv Q n (listed.setIfInBounds i true)) a w
theorem wpAny_of_E {Q' : Exit → Act → World → Prop} (hQ : ∀ a w, Q a w → Q' .normal a w) : ∀ (n : Nat) (listed : Array Bool) (a : Act) (w : World), wpE P md ops Inv Q n listed a w → wpAny P md ops Q' n listed a w
  | 0, _, _, _, h => ⟨h.1, hQ _ _ h.2⟩
  | n + 1, listed, a, w, h => by
    refine ⟨fun h0 => absurd h0 h.1, fun i hi => ?_⟩
    obtain ⟨o, ho, he⟩ := h.2 i hi
    unfold wpOp
    simp only [ho]
    unfold opE at he
    split
    · rename_i hw
      rw [if_pos hw] at he
      exact .inl (wp_mono (fun _ _ _ h => h.elim) (fun a' w' _ hk => wpAny_of_E hQ n _ a' w' hk.2) he)
    · rename_i hw
      rw [if_neg hw] at he
      exact wpAny_of_E hQ n _ _ _ he
theorem getD_true_of {listed : Array Bool} {i : Nat} (h : i < listed.size) : listed.getD i true = listed.getD i false := by simp [h]
theorem mem_deps {j i : Nat} {o : Oper} (ho : ops[j]? = some o) : i ∈ deps md ops j ↔ ∃ e ∈ o.after, Region.binds md e = true ∧ e.on = i := by
  simp only [deps, ho, List.mem_map, List.mem_filter]
  constructor
  · rintro ⟨e, ⟨h1, h2⟩, h3⟩; exact ⟨e, by simpa using h1, h2, h3⟩
  · rintro ⟨e, h1, h2, h3⟩; exact ⟨e, ⟨by simpa using h1, h2⟩, h3⟩
theorem wpE_of_C (hf : fits md ops ev = true) : ∀ (n : Nat) (l : List Nat) (listed : Array Bool) (a : Act) (w : World), l.length = n → l.Pairwise (· < ·) → listed.size = ops.size → (∀ i, i ∈ l ↔ i < ops.size ∧ listed.getD i false = false) → Closed md ops listed → Inv w →
    wpC P ops Inv ev Q l a w → wpE P md ops Inv Q n listed a w := by
  unfold fits at hf
  simp only [Bool.and_eq_true, List.all_eq_true, List.mem_range, decide_eq_true_eq, Bool.or_eq_true, Bool.not_eq_true'] at hf
  obtain ⟨hns, hf⟩ := hf
  have hsel := Region.noSelect_spec hns
  intro n
  induction n with
  | zero =>
    intro l listed a w hl _ hsz hmem _ _ h
    have : l = [] := List.eq_nil_of_length_eq_zero hl
    subst this
    refine ⟨?_, h⟩
    refine List.eq_nil_iff_forall_not_mem.2 fun i hi => ?_
    obtain ⟨h0, o, ho, _⟩ := mem_ready.1 hi
    have hlt := (Array.getElem?_eq_some_iff.1 ho).1
    have := (hmem i).2 ⟨hlt, by rw [getD_true_of (by omega)] at h0; exact h0⟩
    cases this
  | succ n ih =>
    intro l listed a w hl hsort hsz hmem hcl hw h
    have hready : ∀ j ∈ Region.ready md ops listed, j ∈ l ∧ j < ops.size ∧ ∀ k ∈ deps md ops j, listed.getD k false = true := by
      intro j hj
      obtain ⟨h0, o, ho, hall⟩ := mem_ready.1 hj
      have hlt := (Array.getElem?_eq_some_iff.1 ho).1
      refine ⟨(hmem j).2 ⟨hlt, by rw [getD_true_of (by omega)] at h0; exact h0⟩, hlt, fun k hk => ?_⟩
      obtain ⟨e, he, hb, rfl⟩ := (mem_deps ho).1 hk
      exact hall e he hb
    refine ⟨fun h0 => ?_, fun j hj => ?_⟩
    · cases l with
      | nil => simp at hl
      | cons i r =>
        obtain ⟨hi, hun⟩ := (hmem i).1 (by simp)
        obtain ⟨o, ho⟩ : ∃ o, ops[i]? = some o := ⟨_, Array.getElem?_eq_getElem hi⟩
        have : i ∈ Region.ready md ops listed := mem_ready.2 ⟨by rw [getD_true_of (by omega)]; exact hun, o, ho, fun e he hb => by
          have hk := (mem_deps (md := md) ho).2 ⟨e, he, hb, rfl⟩
          have hlt := (hf i hi).1 _ hk
          cases hc : listed.getD e.on false with
          | true => rfl
          | false =>
            have hm := (hmem e.on).2 ⟨by omega, hc⟩
            rcases List.mem_cons.1 hm with hm | hm
            · omega
            · have := (List.pairwise_cons.1 hsort).1 _ hm; omega⟩
        rw [h0] at this
        cases this
    · obtain ⟨hjl, hjs, hdeps⟩ := hready j hj
      obtain ⟨oj, hoj⟩ : ∃ o, ops[j]? = some o := ⟨_, Array.getElem?_eq_getElem hjs⟩
      obtain ⟨l1, l2, rfl⟩ := List.append_of_mem hjl
      have hlt1 : ∀ x ∈ l1, x < j := fun x hx => (List.pairwise_append.1 hsort).2.2 x hx j (by simp)
      have hfront := wpC_front (P := P) (Inv := Inv) (ev := ev) (Q := Q) hoj (fun i o cs b ho => hsel i o cs b ho) l1 l2 (fun x hx => by
        obtain ⟨hxs, hxu⟩ := (hmem x).1 (by simp [hx])
        obtain ⟨ox, hox⟩ : ∃ o, ops[x]? = some o := ⟨_, Array.getElem?_eq_getElem hxs⟩
        refine ⟨ox, hox, ?_⟩
        rcases (hf j hjs).2 x (hlt1 x hx) with hh | hh
        · rw [hox, hoj] at hh
          refine ⟨hh.2, fun he => ?_⟩
          have := hh.1
          rw [he.1, he.2] at this
          cases this
        · have := reach_listed hcl _ _ _ hdeps hh
          rw [hxu] at this
          cases this) a w hw h
      refine ⟨oj, hoj, ?_⟩
      have hstep : ∀ a' w', Inv w' → wpC P ops Inv ev Q (l1 ++ l2) a' w' → wpE P md ops Inv Q n (listed.setIfInBounds j true) a' w' := by
        intro a' w' hw' hk
        refine ih (l1 ++ l2) _ a' w' (by simp at hl ⊢; omega) ?_ (by simp [hsz]) (fun i => ?_) ?_ hw' hk
        · rw [List.pairwise_append] at hsort ⊢
          exact ⟨hsort.1, (List.pairwise_cons.1 hsort.2.1).2, fun x hx y hy => hsort.2.2 x hx y (by simp [hy])⟩
        · have hnj1 : j ∉ l1 := fun hm => by have := hlt1 j hm; omega
          have hnj2 : j ∉ l2 := fun hm => by have := (List.pairwise_cons.1 (List.pairwise_append.1 hsort).2.1).1 j hm; omega
          by_cases hij : j = i
          · subst hij
            constructor
            · intro hm; simp only [List.mem_append] at hm; exact absurd hm (by simp [hnj1, hnj2])
            · rintro ⟨h1, h2⟩
              rw [show (listed.setIfInBounds j true).getD j false = true from by simp [hsz, hjs]] at h2
              cases h2
          · rw [getD_set_ne false hij, ← hmem i]
            simp only [List.mem_append, List.mem_cons]
            constructor
            · rintro (h | h)
              · exact .inl h
              · exact .inr (.inr h)
            · rintro (h | h | h)
              · exact .inl h
              · exact absurd h.symm hij
              · exact .inr h
        · intro k hk i hi
          by_cases hkj : j = k
          · subst hkj
            exact getD_set_true (hdeps i hi)
          · rw [getD_set_ne false hkj] at hk
            exact getD_set_true (hcl k hk i hi)
      simp only [wpC] at hfront
      obtain ⟨o, ho, hfront⟩ := hfront
      rw [hoj] at ho
      obtain rfl := Option.some.inj ho
      split at hfront
      · exact opE_mono (fun a' w' _ hk => hstep a' w' hk.1 hk.2) hfront
      · obtain ⟨v, hl, hk⟩ := hfront
        exact hl.opE hw (hstep _ _ hw hk)
/-- THE REGION. -/
theorem wp_region_calls {id : Nat} {Q : Exit → Act → World → Prop} {a : Act} {w : World} {ops : Array Oper} (Inv : World → Prop) (ev : Nat → Bool) (hm : P.follows .mixedOrders = true) (hf : fits .any ops ev = true) (hw : Inv { w with drawn := w.drawn + 1 })
    (h : wpC P ops Inv ev (fun a w => Q .normal a w) (List.range ops.size) a { w with drawn := w.drawn + 1 }) : (Code.region id ops true).wp P Q a w := by
  refine wp_region_any hm ?_
  refine wpAny_of_E (Q := fun a w => Q .normal a w) (fun _ _ h => h) _ _ _ _ (wpE_of_C (Inv := Inv) hf ops.size (List.range ops.size) _ a _ (by simp) List.pairwise_lt_range (by simp) (fun i => ?_) (fun j hj => ?_) hw h)
  · rw [List.mem_range, getD_replicate_false]
    simp
  · rw [getD_replicate_false] at hj
    cases hj
/-- .. its places written out. -/
theorem wp_region_calls' {id : Nat} {Q : Exit → Act → World → Prop} {a : Act} {w : World} {ops : Array Oper} {l : List Nat} (Inv : World → Prop) (ev : Nat → Bool) (hm : P.follows .mixedOrders = true) (hf : fits .any ops ev = true) (hl : List.range ops.size = l) (hw : Inv { w with drawn := w.drawn + 1 })
    (h : wpC P ops Inv ev (fun a w => Q .normal a w) l a { w with drawn := w.drawn + 1 }) : (Code.region id ops true).wp P Q a w := by
  subst hl
  exact wp_region_calls Inv ev hm hf hw h
/-- The walk over the operations themselves. -/
def wpS (P : Program) (ops : Array Oper) (Inv : World → Prop) (ev : Nat → Bool) (Q : Act → World → Prop) : List Oper → Nat → Act → World → Prop
  | [], _, a, w => Q a w
  | o :: r, i, a, w => if ev i = true then opE P ops Inv o (fun a' w' => Inv w' ∧ wpS P ops Inv ev Q r (i + 1) a' w') a w else ∃ v, Loc P ops Inv o v a ∧ wpS P ops Inv ev Q r (i + 1) (a.put o.dst v) w
theorem wpC_of_S : ∀ (l : List Oper) (i : Nat) (a : Act) (w : World), (∀ j, l[j]? = ops[i + j]?) → wpS P ops Inv ev Q l i a w → wpC P ops Inv ev Q (List.range' i l.length) a w
  | [], _, _, _, _, h => h
  | o :: r, i, a, w, hl, h => by
    have hr : ∀ j, r[j]? = ops[i + 1 + j]? := fun j => by have := hl (j + 1); rw [List.getElem?_cons_succ] at this; rw [this]; congr 1; omega
    refine ⟨o, by have := hl 0; simpa using this.symm, ?_⟩
    unfold wpS at h
    split
    · rename_i he
      rw [if_pos he] at h
      exact opE_mono (fun a' w' _ hk => ⟨hk.1, wpC_of_S r (i + 1) a' w' hr hk.2⟩) h
    · rename_i he
      rw [if_neg he] at h
      obtain ⟨v, hl, hk⟩ := h
      exact ⟨v, hl, wpC_of_S r (i + 1) _ _ hr hk⟩
/-- THE REGION, walked. -/
theorem wp_region_text {id : Nat} {Q : Exit → Act → World → Prop} {a : Act} {w : World} {l : List Oper} (Inv : World → Prop) (ev : Nat → Bool) (hm : P.follows .mixedOrders = true) (hf : fits .any l.toArray ev = true) (hw : Inv w.drew)
    (h : wpS P l.toArray Inv ev (fun a w => Q .normal a w) l 0 a w.drew) : (Code.region id l.toArray true).wp P Q a w := by
  refine wp_region_calls Inv ev hm hf hw ?_
  have := wpC_of_S l 0 a w.drew (fun j => by simp) h
  rw [List.size_toArray, List.range_eq_range']
  exact this
theorem S_nil {i : Nat} {a : Act} {w : World} (h : Q a w) : wpS P ops Inv ev Q [] i a w := h
/-- One step: an operation that yields v. -/
theorem S_val {i : Nat} {r : List Oper} {a : Act} {w : World} {o : Oper} {v : Value} (he : ev i = false) (hw : Region.wanted o (yielded ops a.tmps) = true) (hv : ∀ W, Inv W → ∀ R : Result Next → Prop, R (.ok (.value v) W) → R ((execOp a.eval o).run P W))
    (h : wpS P ops Inv ev Q r (i + 1) (a.put o.dst v) w) : wpS P ops Inv ev Q (o :: r) i a w := by
  unfold wpS
  rw [if_neg (by rw [he]; simp)]
  exact ⟨v, fun W hW => .inl ⟨hw, .inl (hv W hW (fun x => x = .ok (.value v) W) rfl)⟩, h⟩
/-- One step: an operation that is passed by. -/
theorem S_off {i : Nat} {r : List Oper} {a : Act} {w : World} {o : Oper} (hw : Region.wanted o (yielded ops a.tmps) = false) (hi : Inv w)
    (h : wpS P ops Inv ev Q r (i + 1) (a.put o.dst undef) w) : wpS P ops Inv ev Q (o :: r) i a w := by
  unfold wpS
  split
  · unfold opE
    rw [if_neg (by rw [hw]; simp)]
    exact ⟨hi, h⟩
  · exact ⟨undef, fun W hW => .inr ⟨hw, rfl⟩, h⟩
/-- One step: a call. -/
theorem S_call {i : Nat} {r : List Oper} {a : Act} {w : World} {o : Oper} {f : FuncId} {args : Array Value} {R : Ending → World → Prop} (he : ev i = true) (hw : Region.wanted o (yielded ops a.tmps) = true) (hx : (execOp a.eval o).run P w = .ok (.enter f args) w)
    (hc : Calls P f args w R) (h : ∀ e w', R e w' → ∃ v, e = .returned v ∧ Inv w' ∧ wpS P ops Inv ev Q r (i + 1) (a.put o.dst v) w') : wpS P ops Inv ev Q (o :: r) i a w := by
  unfold wpS
  rw [if_pos he]
  unfold opE
  rw [if_pos hw]
  unfold Oper.wp
  rw [hx]
  simp only [Oper.upon]
  refine hc.mono fun e w' hR => ?_
  obtain ⟨v, rfl, hi, hk⟩ := h e w' hR
  exact ⟨hi, hi, hk⟩
/-- One step: an operation that makes or writes memory. -/
theorem S_make {i : Nat} {r : List Oper} {a : Act} {w w' : World} {o : Oper} {v : Value} (he : ev i = true) (hw : Region.wanted o (yielded ops a.tmps) = true) (hx : (execOp a.eval o).run P w = .ok (.value v) w') (hi : Inv w')
    (h : wpS P ops Inv ev Q r (i + 1) (a.put o.dst v) w') : wpS P ops Inv ev Q (o :: r) i a w := by
  unfold wpS
  rw [if_pos he]
  unfold opE
  rw [if_pos hw]
  unfold Oper.wp
  rw [hx]
  exact ⟨hi, hi, h⟩
theorem wanted_none {o : Oper} {y : Nat → Option Bool} (h : o.guard = none) : Region.wanted o y = true := by simp [Region.wanted, h]
theorem wanted_yes {o : Oper} {tmps : Array Value} {j : Nat} {b : Bool} {d : Tmp} (h : o.guard = some (j, b)) (hd : (ops[j]?).bind (·.dst) = some d) (ht : tmps[d]? = some (.bool b)) : Region.wanted o (yielded ops tmps) = true := by
  simp [Region.wanted, h, yielded, hd, ht]
theorem wanted_no {o : Oper} {tmps : Array Value} {j : Nat} {b : Bool} {d : Tmp} (h : o.guard = some (j, !b)) (hd : (ops[j]?).bind (·.dst) = some d) (ht : tmps[d]? = some (.bool b)) : Region.wanted o (yielded ops tmps) = false := by
  simp [Region.wanted, h, yielded, hd, ht]
end
end Go.Proofs.Ytngncegokmppiaa.Reg
