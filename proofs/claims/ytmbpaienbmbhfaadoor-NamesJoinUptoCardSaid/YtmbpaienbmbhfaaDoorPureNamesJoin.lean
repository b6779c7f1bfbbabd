import Derived.Test.YtmbpaienbmbhfaaDoorPureNamesBack
namespace Go.Proofs.YtmbpaienbmbhfaaDoor.Pure
open Go Go.RowKit Go.Proofs.YtmbpaienbmbhfaaDoor.Str Go.Proofs.YtmbpaienbmbhfaaDoor.Print Go.Proofs.YtmbpaienbmbhfaaDoorW.PrintWords Go.Proofs.YtmbpaienbmbhfaaDoorW.PrintLast Go.Proofs.YtmbpaienbmbhfaaDoorW.PrintMore
set_option maxRecDepth 100000
/-! The path of any names. -/
theorem joinS_size (l : List ByteArray) : (joinS (l.map L)).length = l.length + (l.map ByteArray.size).sum := by
  induction l with
  | nil => rfl
  | cons x r ih =>
    have hx := L_len x
    rw [List.map_cons, joinS_cons, List.length_append, List.length_cons, ih, List.length_cons, List.map_cons, List.sum_cons]
    omega
/-- Of any list. -/
def anyJoin (l : List ByteArray) : ByteArray × Int := if l = [] then (mk [47], 0) else (mk (joinR (l.map L)).1, (joinR (l.map L)).2)
theorem njoin_any (l : List ByteArray) (hl : l.length ≤ 1048576) (hs : (l.map ByteArray.size).sum ≤ 1048576) (hx : ∀ x ∈ l, x.size ≤ 140737488351232) : Ev (fun k => names_Join.f k l) (anyJoin l) := by
  have hj := joinS_size l
  refine Ev.congr (f := fun k => njoinF k l) (fun k => rfl) ?_
  unfold anyJoin
  by_cases h : l = []
  · subst h; exact Ev.now _
  · have e := join47 l h
    have he : (joinL l).length + 1 = (joinS (l.map L)).length := by rw [← e]; rfl
    have hp : ((⟨#[47]⟩ : ByteArray) ++ mk (joinL l)) = mk (joinS (l.map L)) := by
      rw [← e]; apply ByteArray.ext; simp [mk, ByteArray.data_append]
    have ho := anyOdd_ev l hx
    have hz : (l.any fun x => !rightL (L x)) = !((l.map L).all rightL) := by
      rw [List.not_all_eq_any_not, List.any_map]; rfl
    rw [hz] at ho
    rw [if_neg h]
    unfold njoinF joinR
    rw [hp]
    by_cases h1 : (joinS (l.map L)).length > 120
    · refine Ev.congr (f := fun _ => some ((⟨#[]⟩ : ByteArray), (3 : Int))) (fun k => by rw [if_pos ⟨by omega, by omega⟩, if_pos (by rw [mk_size]; omega)]) ?_
      cases (l.map L).all rightL with
      | true => rw [if_pos rfl, if_pos h1]; exact Ev.now _
      | false => exact Ev.now _
    · refine Ev.congr (fun k => by rw [if_pos ⟨by omega, by omega⟩, if_neg (by rw [mk_size]; omega)]) (Ev.bind ho ?_)
      cases (l.map L).all rightL with
      | true => rw [if_pos rfl, if_neg h1]; exact Ev.congr (f := fun _ => some _) (fun k => if_neg (by decide)) (Ev.now _)
      | false => exact Ev.congr (f := fun _ => some _) (fun k => if_pos rfl) (Ev.now _)
theorem rjoin_any (l : List ByteArray) (hl : l.length ≤ 1048576) (hs : (l.map ByteArray.size).sum ≤ 1048576) : Ev (fun k => escritoireref04_Join.f k l) (anyJoin l) := by
  have hj := joinS_size l
  unfold anyJoin
  by_cases h : l = []
  · subst h; exact Ev.now _
  · rw [if_neg h]
    exact refJoin_ev l (by omega) (by omega) h
theorem map_mk_L (l : List ByteArray) : (l.map L).map mk = l := by
  rw [List.map_map]
  conv => rhs; rw [← List.map_id l]
  exact List.map_congr_left fun x _ => mk_L x
theorem anyJoin_back (l : List ByteArray) (h : (anyJoin l).2 = 0) : nsplitR (L (anyJoin l).1) = (l, 0) := by
  unfold anyJoin at h ⊢
  by_cases hl : l = []
  · subst hl; rfl
  · rw [if_neg hl] at h ⊢
    unfold joinR at h ⊢
    by_cases h1 : (l.map L).all rightL = true
    · rw [if_pos h1] at h ⊢
      by_cases h2 : (joinS (l.map L)).length > 120
      · rw [if_pos h2] at h; exact absurd h (by decide)
      · rw [if_neg h2]
        have hu := nsplit_up (l.map L) h1 (by omega)
        unfold upL at hu
        rw [if_neg (fun h => hl (List.map_eq_nil_iff.1 h)), map_mk_L] at hu
        rw [L_mk]
        exact hu
    · rw [if_neg h1] at h; exact absurd h (by decide)
theorem anyJoin_size (l : List ByteArray) : (anyJoin l).1.size ≤ 120 := by
  unfold anyJoin joinR
  split
  · exact (by decide : (1 : Nat) ≤ 120)
  · split
    · split
      · exact Nat.zero_le _
      · rename_i h; rw [mk_size]; exact Nat.le_of_not_lt h
    · exact Nat.zero_le _
theorem NamesJoin : escritoirelaw04_NamesJoin.Pure := by
  intro l m h0 h1
  obtain ⟨⟨_, _, hx⟩, hl, hs⟩ := h0
  obtain ⟨_, hm, _⟩ := h1
  apply Ev.rounds
  unfold escritoirelaw04_NamesJoin.f
  refine Ev.bind lives_ev (Ev.congr (fun k => if_pos rfl) ?_)
  refine Ev.bind (njoin_any l hl hs hx) ?_
  refine Ev.bind (rjoin_any l hl hs) ?_
  refine Ev.congr (fun k => if_pos rfl) ?_
  have hlead : names_Lead.f l m = some (l ++ m) := by unfold names_Lead.f leadF; rw [if_pos (by omega)]
  have hsz := anyJoin_size l
  have hb := anyJoin_back l
  generalize anyJoin l = z at hb hsz ⊢
  have hne : (z.2 != z.2) = false := by simp
  have hlen : ((l ++ m).length : Int) = wrap64 ((l.length : Int) + (m.length : Int)) := by rw [wrap_id (by omega) (by omega), List.length_append]; omega
  have htk : (l ++ m).take ((l.length : Int)).toNat = l := by rw [Int.toNat_natCast]; exact List.take_left' rfl
  have hdp : (l ++ m).drop ((l.length : Int)).toNat = m := by rw [Int.toNat_natCast]; exact List.drop_left' rfl
  have hle : (l.length : Int) ≤ ((l ++ m).length : Int) := by rw [List.length_append]; omega
  have SL := SameTexts_ev l (by omega)
  have SM := SameTexts_ev m (by omega)
  refine Ev.step (fun k => by simp only [escritoirelaw04_NamesJoin.j0]; rw [hne, if_neg Bool.false_ne_true]) ?_
  refine Ev.bind (nsplit_ev z.1 (by omega)) ?_
  refine Ev.congr (fun k => by rw [hlead, Option.bind_some]) ?_
  by_cases he : z.2 = 0
  · rw [hb he]
    refine Ev.congr (fun k => by rw [if_pos he, if_pos rfl]) ?_
    refine Ev.bind SL ?_
    refine Ev.congr (fun k => by rw [if_pos rfl, if_pos hlen, if_pos (by omega), if_pos hle, htk, hdp]) ?_
    refine Ev.bind SL ?_
    refine Ev.congr (fun k => if_pos rfl) ?_
    exact Ev.bind SM (Ev.now _)
  · refine Ev.congr (fun k => by rw [if_neg he, if_pos hlen, if_pos (by omega), if_pos hle, htk, hdp]) ?_
    refine Ev.bind SL ?_
    refine Ev.congr (fun k => if_pos rfl) ?_
    exact Ev.bind SM (Ev.now _)
end Go.Proofs.YtmbpaienbmbhfaaDoor.Pure
