/- What an argument reads as, kind by kind: from the form's reading to the words' kinds. -/
import Derived.Test.YtngncegokmppiaaPrint0
import Derived.Deep.Slices
import Derived.ChangeArms
namespace Go.Proofs.Ytngncegokmppiaa.Print
open Go.RowKit Go.Proofs.YtngncegokmppiaaW.PrintWords Go.Proofs.YtngncegokmppiaaW.PrintLast Go.Proofs.YtngncegokmppiaaW.PrintMore
/-- Whatever reads as data of type t reads by the kind d, and is as wf says (sizes within the reach). -/
def Opens (P : Program) (t : TypeId) {α : Type} (d : Kd α) (wf : α → Prop) : Prop :=
  ∀ (H : Type) (enc : TypeId × Value → H) (w : World) (base : Nat) (spare : Nat → Bool) (held : Bool) (fuel : Nat) (cs : List Value) (x : DataW H × List MemPlace),
    DataW.trod enc P w base spare held fuel t cs = some x → (∀ n ∈ DataW.weights P t x.1, n ≤ reachBytes) → ∃ a, d.K w a cs ∧ wf a
theorem Opens.mono {P : Program} {t : TypeId} {α : Type} {d : Kd α} {wf wf' : α → Prop} (h : Opens P t d wf) (hw : ∀ a, wf a → wf' a) : Opens P t d wf' :=
  fun H enc w base spare held fuel cs x hx hs => let ⟨a, h1, h2⟩ := h H enc w base spare held fuel cs x hx hs; ⟨a, h1, hw a h2⟩
theorem opens_int {P : Program} {t : TypeId} {k : IntKind} (hu : P.underlying t = some (.int k)) : Opens P t (Kd.int k) (fun n => (Lit.int k n).wf = true) := by
  intro H enc w base spare held fuel cs x h _
  obtain ⟨n, rfl, rfl, hw⟩ := DataW.trod_int hu h
  exact ⟨n, rfl, hw⟩
theorem opens_bool {P : Program} {t : TypeId} (hu : P.underlying t = some .bool) : Opens P t Kd.bool (fun _ => True) := by
  intro H enc w base spare held fuel cs x h _
  obtain ⟨n, rfl, rfl⟩ := DataW.trod_bool hu h
  exact ⟨n, rfl, trivial⟩
theorem opens_string {P : Program} {t : TypeId} (hu : P.underlying t = some .string) : Opens P t Kd.string (fun s => s.size ≤ 140737488351232) := by
  intro H enc w base spare held fuel cs x h hs
  obtain ⟨n, rfl, rfl, hw⟩ := DataW.trod_string hu h
  refine ⟨n, rfl, ?_⟩
  have := hs n.data.toList.length (by simp [DataW.weights])
  simpa [reachBytes] using this
theorem weightsAll_mem {H : Type} {P : Program} {e : TypeId} : ∀ (l : List (DataW H)) (i : Nat) (d : DataW H), l[i]? = some d → ∀ n ∈ d.weights P e, n ∈ DataW.weightsAll P e l := by
  intro l
  induction l with
  | nil => intro i d h; simp at h
  | cons a r ih =>
    intro i d h n hn
    cases i with
    | zero =>
      have : a = d := by simpa using h
      subst this
      simp [DataW.weightsAll, hn]
    | succ i =>
      have := ih i d (by simpa using h) n hn
      simp [DataW.weightsAll, this]
theorem opens_slice {P : Program} {t e : TypeId} {α : Type} {d : Kd α} {wf : α → Prop} (bytes : Nat) (hu : P.underlying t = some (.slice e)) (hc : P.cellsOf e = d.sz) (hb : P.bytesOf e = bytes) (hd : Opens P e d wf) :
    Opens P t (Kd.slice e d) (fun l => l.length ≤ 9223372036854775807 ∧ l.length * bytes ≤ 140737488351232 ∧ ∀ x ∈ l, wf x) := by
  intro H enc w base spare held fuel cs x h hs
  rcases DataW.trod_slice hu h with ⟨rfl, rfl⟩ | ⟨a, len, cap, elems, rest, n, _, rfl, rfl, hba, hl, hm, hlen, hel, hsp, hns⟩
  · exact ⟨[], ⟨none, 0, rfl, Nat.le_refl _, Kd.C_nil _ _⟩, by simp, by simp, by simp⟩
  · have hx : ∀ i, i < len → ∃ a', (∃ cs', w.cells? base (a.add (i * P.cellsOf e)) (P.cellsOf e) = some cs' ∧ d.K w a' cs') ∧ wf a' := by
      intro i hi
      have h1 := hel i hi
      have hi' : i < elems.length := by omega
      rw [List.getElem?_eq_getElem hi'] at h1
      obtain ⟨cs', h2, h3⟩ := Option.bind_eq_some_iff.1 h1
      obtain ⟨a', h4, h5⟩ := hd H enc w base spare held n cs' _ h3 (by
        intro m hmm
        refine hs m ?_
        simp only [DataW.weights, hu]
        refine List.mem_cons_of_mem _ (List.mem_append_left _ (weightsAll_mem _ i _ ?_ m hmm))
        rw [List.getElem?_map, List.getElem?_eq_getElem hi']
        rfl)
      exact ⟨a', ⟨cs', h2, h4⟩, h5⟩
    have hlist : ∃ l : List α, l.length = len ∧ ∀ i a', l[i]? = some a' → (∃ cs', w.cells? base (a.add (i * P.cellsOf e)) (P.cellsOf e) = some cs' ∧ d.K w a' cs') ∧ wf a' := by
      clear hs hel hsp hns hlen h hl
      induction len with
      | zero => exact ⟨[], rfl, fun i a' h => by simp at h⟩
      | succ m ih =>
        obtain ⟨l, h1, h2⟩ := ih (fun i hi => hx i (by omega))
        obtain ⟨a', h3⟩ := hx m (by omega)
        refine ⟨l ++ [a'], by simp [h1], ?_⟩
        intro i b hb'
        by_cases hi : i < l.length
        · rw [List.getElem?_append_left hi] at hb'
          exact h2 i b hb'
        · have hi2 : i = m := by
            have := (List.getElem?_eq_some_iff.1 hb').1
            simp at this; omega
          subst hi2
          rw [List.getElem?_append_right (by omega), h1, Nat.sub_self] at hb'
          have : a' = b := by simpa using hb'
          subst this
          exact h3
    obtain ⟨l, hll, hl2⟩ := hlist
    have hmx : cap ≤ 9223372036854775807 := by simpa [maxLen] using hm
    refine ⟨l, ⟨some a, cap, by rw [hll], by omega, ⟨rfl, by omega, ?_⟩⟩, by omega, ?_, ?_⟩
    · intro _
      refine ⟨a, rfl, ?_⟩
      intro j p hp
      obtain ⟨⟨cs', h1, h2⟩, _⟩ := hl2 j p hp
      obtain ⟨_, h3, h4⟩ := World.cells?_some h1
      refine ⟨cs', by rw [h3, hc], h2, ?_⟩
      intro i u hiu
      have hi : i < P.cellsOf e := by
        have := (List.getElem?_eq_some_iff.1 hiu).1
        omega
      have := h4 i hi
      rw [hiu, Go.Deep.add_add, hc] at this
      exact this
    · have := hs ((elems.map (·.1)).length + (rest.map (·.1)).length |>.mul (P.bytesOf e)) (by
        simp only [DataW.weights, hu]
        exact List.mem_cons_self ..)
      have h1 : (elems.length + rest.length) * bytes ≤ 140737488351232 := by
        simpa [reachBytes, hb] using this
      rw [hll, ← hlen]
      exact Nat.le_trans (Nat.mul_le_mul_right _ (Nat.le_add_right _ _)) h1
    · intro y hy
      obtain ⟨i, hi⟩ := List.getElem?_of_mem hy
      exact (hl2 i y hi).2
/-- Fields (types, offsets) from cell o on. -/
def OpensF (P : Program) (l : List (TypeId × Nat)) (o : Nat) {α : Type} (d : Kd α) (wf : α → Prop) : Prop :=
  ∀ (H : Type) (enc : TypeId × Value → H) (w : World) (base : Nat) (spare : Nat → Bool) (held : Bool) (n : Nat) (cs : List Value) (xs : List (DataW H × List MemPlace)),
    (∀ (i : Nat) (f : TypeId × Nat), l[i]? = some f → DataW.trod enc P w base spare held n f.1 ((cs.drop f.2).take (P.cellsOf f.1)) = xs[i]?) → xs.length = l.length → cs.length = o + d.sz →
    (∀ z ∈ DataW.weightsEach P (l.map (·.1)) (xs.map (·.1)), z ≤ reachBytes) → ∃ a, d.K w a (cs.drop o) ∧ wf a
theorem opensF_one {P : Program} {t : TypeId} {o : Nat} {α : Type} {d : Kd α} {wf : α → Prop} (h : Opens P t d wf) (hc : P.cellsOf t = d.sz) : OpensF P [(t, o)] o d wf := by
  intro H enc w base spare held n cs xs hx hl hcs hs
  match xs, hl with
  | [x], _ =>
    have h1 := hx 0 (t, o) rfl
    have h2 : (cs.drop o).take (P.cellsOf t) = cs.drop o := List.take_of_length_le (by rw [List.length_drop, hc]; omega)
    rw [h2] at h1
    exact h H enc w base spare held n _ x (by simpa using h1) (fun z hz => hs z (by simp [DataW.weightsEach, hz]))
theorem opensF_cons {P : Program} {t : TypeId} {o : Nat} {r : List (TypeId × Nat)} {α β : Type} {d : Kd α} {e : Kd β} {wf : α → Prop} {wg : β → Prop} (h : Opens P t d wf) (hc : P.cellsOf t = d.sz) (hr : OpensF P r (o + d.sz) e wg) :
    OpensF P ((t, o) :: r) o (Kd.pair d e) (fun x => wf x.1 ∧ wg x.2) := by
  intro H enc w base spare held n cs xs hx hl hcs hs
  match xs, hl with
  | x :: xs, hl =>
    have hsz : cs.length = o + (d.sz + e.sz) := hcs
    have h1 := hx 0 (t, o) rfl
    obtain ⟨a, ha, wa⟩ := h H enc w base spare held n _ x (by simpa using h1) (fun z hz => hs z (by simp [DataW.weightsEach, hz]))
    obtain ⟨b, hb, wb⟩ := hr H enc w base spare held n cs xs (fun i f hf => by have := hx (i + 1) f (by simpa using hf); simpa using this) (by simpa using hl) (by omega) (fun z hz => hs z (by simp [DataW.weightsEach]; right; simpa using hz))
    refine ⟨(a, b), ⟨_, _, ?_, ha, hb⟩, wa, wb⟩
    rw [hc, ← List.drop_drop, List.take_append_drop]
theorem weightsEach_all {H : Type} {P : Program} {e : TypeId} : ∀ (l : List (DataW H)), DataW.weightsEach P (List.replicate l.length e) l = DataW.weightsAll P e l := by
  intro l
  induction l with
  | nil => rfl
  | cons a r ih => simp [DataW.weightsEach, DataW.weightsAll, List.replicate_succ, ih]
theorem opens_struct {P : Program} {t : TypeId} {fs : Array Field} {α : Type} {d : Kd α} {wf : α → Prop} (hu : P.underlying t = some (.struct fs)) (hc : P.cellsOf t = d.sz) (h : OpensF P (fs.toList.map fun f => (f.type, f.offset)) 0 d wf) : Opens P t d wf := by
  intro H enc w base spare held fuel cs x hx hs
  obtain ⟨xs, n, _, rfl, hl, hlen, hf⟩ := DataW.trod_struct hu hx
  obtain ⟨a, h1, h2⟩ := h H enc w base spare held n cs xs (fun i f hif => by
      rw [List.getElem?_map] at hif
      obtain ⟨g, hg, rfl⟩ := Option.map_eq_some_iff.1 hif
      exact hf i g (by simpa using hg)) (by simp [hlen]) (by omega) (fun z hz => hs z (by
        simp only [DataW.weights, hu]
        rw [List.map_map] at hz
        exact hz))
  exact ⟨a, by simpa using h1, h2⟩
theorem opens_array {P : Program} {t e : TypeId} {n : Nat} {α : Type} {d : Kd α} {wf : α → Prop} (hu : P.underlying t = some (.array n e)) (hc : P.cellsOf t = d.sz) (h : OpensF P ((List.range n).map fun i => (e, i * P.cellsOf e)) 0 d wf) : Opens P t d wf := by
  intro H enc w base spare held fuel cs x hx hs
  cases fuel with
  | zero => simp [DataW.trod] at hx
  | succ m =>
    unfold DataW.trod at hx
    rw [hu] at hx
    have hx2 : cs.length = P.cellsOf t ∧ ((List.range n).mapM fun i => DataW.trod enc P w base spare held m e ((cs.drop (i * P.cellsOf e)).take (P.cellsOf e))).map (fun xs => (DataW.agg (xs.map (·.1)), xs.flatMap (·.2))) = some x := by
      split at hx <;> simp_all
    obtain ⟨hlc, hx3⟩ := hx2
    obtain ⟨xs, hxs, rfl⟩ := Option.map_eq_some_iff.1 hx3
    have hlen := mapM_some_length hxs
    rw [List.length_range] at hlen
    obtain ⟨a, h1, h2⟩ := h H enc w base spare held m cs xs (fun i f hif => by
        rw [List.getElem?_map] at hif
        obtain ⟨g, hg, rfl⟩ := Option.map_eq_some_iff.1 hif
        have hgi : g = i := by
          have := (List.getElem?_eq_some_iff.1 hg).2
          simpa using this.symm
        subst hgi
        exact mapM_some_get hxs g g hg) (by simp [hlen]) (by omega) (fun z hz => hs z (by
          simp only [DataW.weights, hu]
          rw [← weightsEach_all]
          have e1 : (List.map (fun x => x.1) (List.map (fun i => (e, i * P.cellsOf e)) (List.range n))) = List.replicate (xs.map (·.1)).length e := by
            apply List.ext_getElem
            · simp [hlen]
            · intro i h1 h2; simp
          rw [← e1]
          exact hz))
    exact ⟨a, by simpa using h1, h2⟩
theorem opens_iso {P : Program} {t : TypeId} {α β : Type} {d : Kd α} {f : β → α} (g : α → β) (hg : ∀ a, f (g a) = a) {wf : α → Prop} (h : Opens P t d wf) : Opens P t (Kd.iso d f) (fun b => wf (f b)) := by
  intro H enc w base spare held fuel cs x hx hs
  obtain ⟨a, h1, h2⟩ := h H enc w base spare held fuel cs x hx hs
  exact ⟨g a, by show d.K w (f (g a)) cs; rw [hg]; exact h1, by show wf (f (g a)); rw [hg]; exact h2⟩
end Go.Proofs.Ytngncegokmppiaa.Print
