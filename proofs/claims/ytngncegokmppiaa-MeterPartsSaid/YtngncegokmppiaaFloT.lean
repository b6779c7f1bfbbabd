/- Rows of pairs and of marks, as a walk wants them. -/
import Derived.Test.YtngncegokmppiaaFloR
import Derived.Test.YtngncegokmppiaaFloP
namespace Go.Proofs.Ytngncegokmppiaa.Flo
open Go Go.RowKit Go.Proofs.YtngncegokmppiaaW.PrintWords Go.Proofs.YtngncegokmppiaaW.PrintLast Go.Proofs.YtngncegokmppiaaW.PrintMore
set_option linter.unusedVariables false
set_option linter.unusedSimpArgs false
theorem pair_at {w : World} {A : Option Addr} {n : Nat} {l : List (Int × Int)} (h : Kd.C kP w A n l) (i : Nat) (hi : i < n) : ∃ ad p, A = some ad ∧ l[i]? = some p ∧ w.cell? (ad.add (i * 2)) = some (.int .i64 p.1) ∧ w.cell? ((ad.add (i * 2)).add 1) = some (.int .i64 p.2) := by
  obtain ⟨h1, h2, h3⟩ := h
  obtain ⟨ad, hA, h4⟩ := h3 (by omega)
  obtain ⟨p, hx⟩ : ∃ p, l[i]? = some p := ⟨_, List.getElem?_eq_getElem (by omega)⟩
  obtain ⟨cs, e1, ⟨a, b, rfl, ea, eb⟩, h5⟩ := h4 i p hx
  have ea : a = [Value.int .i64 p.1] := ea
  have eb : b = [Value.int .i64 p.2] := eb
  subst ea eb
  have h6 := h5 0 (.int .i64 p.1) rfl
  have h7 := h5 1 (.int .i64 p.2) rfl
  refine ⟨ad, p, hA, hx, ?_, ?_⟩
  · rw [show i * kP.sz + 0 = i * 2 from rfl] at h6
    exact h6
  · rw [show i * kP.sz + 1 = i * 2 + 1 from rfl] at h7
    rw [← h7]
    unfold Addr.add
    by_cases hi0 : i * 2 = 0
    · rw [if_pos hi0]; simp [hi0]
    · rw [if_neg hi0]; simp [Nat.add_assoc]
theorem cell_b {w w' : World} (hb : Below w.heap.size w w') {a : Addr} {u : Value} (h : w.cell? a = some u) : w'.cell? a = some u := by
  have hs : a.block < w.heap.size := by
    by_cases hx : a.block < w.heap.size
    · exact hx
    · exfalso
      have e : w.heap[a.block]? = none := by simp; omega
      unfold World.cell? at h
      simp [e] at h
  have e := hb.block a.block hs
  unfold World.cell? at h ⊢
  rw [e]
  exact h
/-- A row of marks of one's own. -/
def Marks (w : World) (base g cap : Nat) (xs : List Bool) : Prop := w.ownsRow base 4 1 (.slice (some ⟨g, 0, none⟩) xs.length cap) xs.length (xs.map Value.bool)
theorem Marks.set {w : World} {base g cap : Nat} {xs : List Bool} (h : Marks w base g cap xs) {i : Nat} (hi : i < xs.length) (b : Bool) : Marks (w.setCell ⟨g, i, none⟩ (.bool b)) base g cap (xs.set i b) ∧ base ≤ g ∧ g < w.heap.size := by
  obtain ⟨h1, h2⟩ := h
  rcases h2 with ⟨h2, _⟩ | ⟨g', cap', cur, hv, hb, hh, h3, h4, h5, h6⟩
  · cases h2
  · injection hv with hv _ hc
    injection hv with hv
    injection hv with hv
    subst hv hc
    have hs : (w.setCell ⟨g, i, none⟩ (.bool b)).heap[g]? = some (.cells (cur.setIfInBounds i (.bool b)) 4 (0, 0)) := by
      simp [World.setCell, hh, Array.getElem?_modify]
    refine ⟨⟨by simp, .inr ⟨g, cap, _, by rw [List.length_set], hb, hs, by rw [List.length_set]; exact h3, h4, by simpa using h5, ?_⟩⟩, hb, (Array.getElem?_eq_some_iff.1 hh).1⟩
    rw [List.length_set, List.map_set, ← h6]
    simp [List.take_set]
theorem Marks.at {w : World} {base g cap : Nat} {xs : List Bool} (h : Marks w base g cap xs) (i : Nat) (hi : i < xs.length) : w.cell? ⟨g, i, none⟩ = some (.bool (xs.getD i false)) ∧ w.frozen? ⟨g, i, none⟩ = false := by
  obtain ⟨h1, h2⟩ := h
  rcases h2 with ⟨h2, _⟩ | ⟨g', cap', cur, hv, hb, hh, h3, h4, h5, h6⟩
  · cases h2
  · injection hv with hv _ hc
    injection hv with hv
    injection hv with hv
    subst hv hc
    have e : (cur.toList.take (xs.length * 1))[i]? = (xs.map Value.bool)[i]? := by rw [h6]
    rw [List.getElem?_take, if_pos (by omega), List.getElem?_map, List.getElem?_eq_getElem hi] at e
    constructor
    · unfold World.cell?
      simp only [hh]
      rw [← Array.getElem?_toList, e, List.getD_eq_getElem?_getD, List.getElem?_eq_getElem hi]
      rfl
    · unfold World.frozen?
      simp [hh]
theorem Marks.kept {w w' : World} {base g cap : Nat} {xs : List Bool} (h : Marks w base g cap xs) (hb : w'.heap[g]? = w.heap[g]?) : Marks w' base g cap xs := by
  obtain ⟨h1, h2⟩ := h
  refine ⟨h1, ?_⟩
  rcases h2 with h2 | ⟨g', cap', cur, hv, hb', hh, h3⟩
  · exact .inl h2
  · injection hv with hv _ hc
    injection hv with hv
    injection hv with hv
    subst hv hc
    exact .inr ⟨g, cap, cur, rfl, hb', hb.trans hh, h3⟩
theorem Marks.of_R {w : World} {base : Nat} {ok : Nat → Prop} {g cap : Nat} {xs : List Bool} (h : Kd.R Kd.bool 4 w base ok (.slice (some ⟨g, 0, none⟩) xs.length cap) xs) : Marks w base g cap xs := Kd.own_of_R h
end Go.Proofs.Ytngncegokmppiaa.Flo
