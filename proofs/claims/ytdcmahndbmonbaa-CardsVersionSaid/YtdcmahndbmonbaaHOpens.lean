/- What an argument reads as, kind by kind: from the form's reading to the words' kinds. -/
import Derived.Test.YtdcmahndbmonbaaPrint0
import Derived.Deep.Slices
import Derived.ChangeArms
namespace Go.Proofs.Ytdcmahndbmonbaa.Print
open Go.RowKit Go.Proofs.YtdcmahndbmonbaaW.PrintWords Go.Proofs.YtdcmahndbmonbaaW.PrintLast Go.Proofs.YtdcmahndbmonbaaW.PrintMore
/-- Whatever reads as data of type t reads by the kind d, and is as wf says (sizes within the reach). -/
def Opens (P : Program) (t : TypeId) {α : Type} (d : Kd α) (wf : α → Prop) : Prop :=
  ∀ (H : Type) (enc : TypeId × Value → H) (w : World) (base : Nat) (spare : Nat → Bool) (held : Bool) (fuel : Nat) (cs : List Value) (x : DataW H × List MemPlace),
    DataW.trod enc P w base spare held fuel t cs = some x → (∀ n ∈ DataW.weights P t x.1, n ≤ reachBytes) → ∃ a, d.K w a cs ∧ wf a
theorem Opens.mono {P : Program} {t : TypeId} {α : Type} {d : Kd α} {wf wf' : α → Prop} (h : Opens P t d wf) (hw : ∀ a, wf a → wf' a) : Opens P t d wf' :=
  fun H enc w base spare held fuel cs x hx hs => let ⟨a, h1, h2⟩ := h H enc w base spare held fuel cs x hx hs; ⟨a, h1, hw a h2⟩
theorem opens_int {P : Program} {t : TypeId} {k : IntKind} (hu : P.underlying t = some (.int k)) : Opens P t (Kd.int k) (fun n => (Lit.int k n).wf = true) := by
  intro H enc w base spare held fuel cs x h _
  obtain ⟨n, rfl, rfl, hw⟩ := DataW.trod_int hu h
  exact ⟨n, rfl, hw⟩
/-- Fields (types, offsets) from cell o on. -/
def OpensF (P : Program) (l : List (TypeId × Nat)) (o : Nat) {α : Type} (d : Kd α) (wf : α → Prop) : Prop :=
  ∀ (H : Type) (enc : TypeId × Value → H) (w : World) (base : Nat) (spare : Nat → Bool) (held : Bool) (n : Nat) (cs : List Value) (xs : List (DataW H × List MemPlace)),
    (∀ (i : Nat) (f : TypeId × Nat), l[i]? = some f → DataW.trod enc P w base spare held n f.1 ((cs.drop f.2).take (P.cellsOf f.1)) = xs[i]?) → xs.length = l.length → cs.length = o + d.sz →
    (∀ z ∈ DataW.weightsEach P (l.map (·.1)) (xs.map (·.1)), z ≤ reachBytes) → ∃ a, d.K w a (cs.drop o) ∧ wf a
theorem opensF_one {P : Program} {t : TypeId} {o : Nat} {α : Type} {d : Kd α} {wf : α → Prop} (h : Opens P t d wf) (hc : P.cellsOf t = d.sz) : OpensF P [(t, o)] o d wf := by
  intro H enc w base spare held n cs xs hx hl hcs hs
  match xs, hl with
  | [x], _ =>
    have h1 := hx 0 (t, o) rfl
    have h2 : (cs.drop o).take (P.cellsOf t) = cs.drop o := List.take_of_length_le (by rw [List.length_drop, hc]; omega)
    rw [h2] at h1
    exact h H enc w base spare held n _ x (by simpa using h1) (fun z hz => hs z (by simp [DataW.weightsEach, hz]))
theorem opensF_cons {P : Program} {t : TypeId} {o : Nat} {r : List (TypeId × Nat)} {α β : Type} {d : Kd α} {e : Kd β} {wf : α → Prop} {wg : β → Prop} (h : Opens P t d wf) (hc : P.cellsOf t = d.sz) (hr : OpensF P r (o + d.sz) e wg) :
    OpensF P ((t, o) :: r) o (Kd.pair d e) (fun x => wf x.1 ∧ wg x.2) := by
  intro H enc w base spare held n cs xs hx hl hcs hs
  match xs, hl with
  | x :: xs, hl =>
    have hsz : cs.length = o + (d.sz + e.sz) := hcs
    have h1 := hx 0 (t, o) rfl
    obtain ⟨a, ha, wa⟩ := h H enc w base spare held n _ x (by simpa using h1) (fun z hz => hs z (by simp [DataW.weightsEach, hz]))
    obtain ⟨b, hb, wb⟩ := hr H enc w base spare held n cs xs (fun i f hf => by have := hx (i + 1) f (by simpa using hf); simpa using this) (by simpa using hl) (by omega) (fun z hz => hs z (by simp [DataW.weightsEach]; right; simpa using hz))
    refine ⟨(a, b), ⟨_, _, ?_, ha, hb⟩, wa, wb⟩
    rw [hc, ← List.drop_drop, List.take_append_drop]
theorem weightsEach_all {H : Type} {P : Program} {e : TypeId} : ∀ (l : List (DataW H)), DataW.weightsEach P (List.replicate l.length e) l = DataW.weightsAll P e l := by
  intro l
  induction l with
  | nil => rfl
  | cons a r ih => simp [DataW.weightsEach, DataW.weightsAll, List.replicate_succ, ih]
theorem opens_struct {P : Program} {t : TypeId} {fs : Array Field} {α : Type} {d : Kd α} {wf : α → Prop} (hu : P.underlying t = some (.struct fs)) (hc : P.cellsOf t = d.sz) (h : OpensF P (fs.toList.map fun f => (f.type, f.offset)) 0 d wf) : Opens P t d wf := by
  intro H enc w base spare held fuel cs x hx hs
  obtain ⟨xs, n, _, rfl, hl, hlen, hf⟩ := DataW.trod_struct hu hx
  obtain ⟨a, h1, h2⟩ := h H enc w base spare held n cs xs (fun i f hif => by
      rw [List.getElem?_map] at hif
      obtain ⟨g, hg, rfl⟩ := Option.map_eq_some_iff.1 hif
      exact hf i g (by simpa using hg)) (by simp [hlen]) (by omega) (fun z hz => hs z (by
        simp only [DataW.weights, hu]
        rw [List.map_map] at hz
        exact hz))
  exact ⟨a, by simpa using h1, h2⟩
theorem opens_array {P : Program} {t e : TypeId} {n : Nat} {α : Type} {d : Kd α} {wf : α → Prop} (hu : P.underlying t = some (.array n e)) (hc : P.cellsOf t = d.sz) (h : OpensF P ((List.range n).map fun i => (e, i * P.cellsOf e)) 0 d wf) : Opens P t d wf := by
  intro H enc w base spare held fuel cs x hx hs
  cases fuel with
  | zero => simp [DataW.trod] at hx
  | succ m =>
    unfold DataW.trod at hx
    rw [hu] at hx
    have hx2 : cs.length = P.cellsOf t ∧ ((List.range n).mapM fun i => DataW.trod enc P w base spare held m e ((cs.drop (i * P.cellsOf e)).take (P.cellsOf e))).map (fun xs => (DataW.agg (xs.map (·.1)), xs.flatMap (·.2))) = some x := by
      split at hx <;> simp_all
    obtain ⟨hlc, hx3⟩ := hx2
    obtain ⟨xs, hxs, rfl⟩ := Option.map_eq_some_iff.1 hx3
    have hlen := mapM_some_length hxs
    rw [List.length_range] at hlen
    obtain ⟨a, h1, h2⟩ := h H enc w base spare held m cs xs (fun i f hif => by
        rw [List.getElem?_map] at hif
        obtain ⟨g, hg, rfl⟩ := Option.map_eq_some_iff.1 hif
        have hgi : g = i := by
          have := (List.getElem?_eq_some_iff.1 hg).2
          simpa using this.symm
        subst hgi
        exact mapM_some_get hxs g g hg) (by simp [hlen]) (by omega) (fun z hz => hs z (by
          simp only [DataW.weights, hu]
          rw [← weightsEach_all]
          have e1 : (List.map (fun x => x.1) (List.map (fun i => (e, i * P.cellsOf e)) (List.range n))) = List.replicate (xs.map (·.1)).length e := by
            apply List.ext_getElem
            · simp [hlen]
            · intro i h1 h2; simp
          rw [← e1]
          exact hz))
    exact ⟨a, by simpa using h1, h2⟩
theorem opens_iso {P : Program} {t : TypeId} {α β : Type} {d : Kd α} {f : β → α} (g : α → β) (hg : ∀ a, f (g a) = a) {wf : α → Prop} (h : Opens P t d wf) : Opens P t (Kd.iso d f) (fun b => wf (f b)) := by
  intro H enc w base spare held fuel cs x hx hs
  obtain ⟨a, h1, h2⟩ := h H enc w base spare held fuel cs x hx hs
  exact ⟨g a, by show d.K w (f (g a)) cs; rw [hg]; exact h1, by show wf (f (g a)); rw [hg]; exact h2⟩
end Go.Proofs.Ytdcmahndbmonbaa.Print
