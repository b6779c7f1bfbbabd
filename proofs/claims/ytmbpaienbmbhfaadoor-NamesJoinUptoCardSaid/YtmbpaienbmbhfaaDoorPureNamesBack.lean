import Derived.Test.YtmbpaienbmbhfaaDoorPureParents
namespace Go.Proofs.YtmbpaienbmbhfaaDoor.Pure
open Go Go.RowKit Go.Proofs.YtmbpaienbmbhfaaDoor.Str Go.Proofs.YtmbpaienbmbhfaaDoor.Print Go.Proofs.YtmbpaienbmbhfaaDoorW.PrintWords Go.Proofs.YtmbpaienbmbhfaaDoorW.PrintLast Go.Proofs.YtmbpaienbmbhfaaDoorW.PrintMore
set_option maxRecDepth 100000
/-! There and back. -/
theorem right_no47 {x : List UInt8} (h : rightL x = true) : (47 : UInt8) ∉ x := by
  intro h2
  unfold rightL at h
  simp only [Bool.and_eq_true] at h
  have := List.all_eq_true.1 h.1.1.1.1 47 h2
  revert this
  decide
theorem right_ne {x : List UInt8} (h : rightL x = true) : x ≠ [] := by
  rintro rfl
  revert h
  decide
theorem split_join : ∀ q : List (List UInt8), q ≠ [] → (∀ x ∈ q, (47 : UInt8) ∉ x) → splitL ((joinS q).drop 1) = q
  | [], h, _ => absurd rfl h
  | [x], _, h => by
    show splitL (x ++ joinS []) = [x]
    rw [show joinS [] = ([] : List UInt8) from rfl, List.append_nil, splitL_one (h x (List.mem_cons_self ..))]
  | x :: y :: r, _, h => by
    have ih := split_join (y :: r) (by simp) fun z hz => h z (List.mem_cons_of_mem _ hz)
    show splitL (x ++ 47 :: (y ++ joinS r)) = _
    rw [splitL_at _ (h x (List.mem_cons_self ..))]
    exact congrArg _ ih
theorem nsplit_up (q : List (List UInt8)) (hall : q.all rightL = true) (hl : (joinS q).length ≤ 120) : nsplitR (upL q) = (q.map mk, 0) := by
  by_cases h : q = []
  · subst h; rfl
  · have hr : ∀ x ∈ q, rightL x = true := fun x hx => List.all_eq_true.1 hall x hx
    have hs := split_join q h fun x hx => right_no47 (hr x hx)
    unfold upL nsplitR
    rw [if_neg h]
    obtain ⟨x, r, rfl⟩ : ∃ x r, q = x :: r := by cases q with | nil => exact absurd rfl h | cons x r => exact ⟨x, r, rfl⟩
    rw [if_pos (show (joinS (x :: r)).head? = some 47 from rfl), if_neg (by omega), if_neg, hs, if_pos hall]
    intro h2
    have h3 : x ++ joinS r = [] := h2
    exact right_ne (hr x (List.mem_cons_self ..)) (List.append_eq_nil_iff.1 h3).1
theorem NamesBack : escritoirelaw04_NamesBack.Pure := by
  intro a0 h0
  apply Ev.rounds
  unfold escritoirelaw04_NamesBack.f
  refine Ev.bind lives_ev (Ev.congr (fun k => if_pos rfl) ?_)
  refine Ev.bind (nsplit_ev a0 h0) ?_
  rcases nsplitR_cases (L a0) with h | ⟨h, h47⟩ | ⟨ps, hne, h, hall, hj, hl⟩
  · have hu : underR (L a0) (L a0) = false := by unfold underR; rw [h]; rfl
    have hU := Under_ev a0 a0 h0 h0
    rw [hu] at hU
    rw [h]
    exact Ev.congr (fun k => by dsimp only; rw [if_neg (by omega), if_pos (show ((([] : List ByteArray).length : Int)) = 0 from rfl)]) (Ev.bind hU (Ev.now _))
  · have hP := Parent_ev a0 h0
    have e : parentR (L a0) = (mk [], mk [], 1) := by unfold parentR; rw [h]; rfl
    rw [e] at hP
    rw [h]
    have ha : a0 = mk [47] := by rw [← h47, mk_L]
    have hJ : Ev (fun k => names_Join.f k ([] : List ByteArray)) (mk [47], 0) := njoin_ev [] rfl (by decide)
    refine Ev.congr (fun k => by dsimp only; rw [if_pos rfl]) (Ev.bind hJ (Ev.bind hP (Ev.congr (f := fun _ => some true) (fun k => ?_) (Ev.now _))))
    dsimp only
    rw [if_pos (show ((([] : List ByteArray).length : Int)) = 0 from rfl), if_pos rfl, if_pos (by rw [ha])]
    rfl
  · obtain ⟨q, z, rfl⟩ := parts_cut ps hne
    have hl2 : (joinS (q ++ [z])).length ≤ 120 := by rw [hj]; exact hl
    obtain ⟨h1, h2, h3⟩ := parent_list q z hall hl2
    have hP := Parent_ev a0 h0
    rw [parentR_list h] at hP
    have hJ := njoin_ev (q ++ [z]) hall hl2
    have hup : upL (q ++ [z]) = L a0 := by unfold upL; rw [if_neg hne, hj]
    rw [hup, mk_L] at hJ
    have hq := nsplit_up q h1 h2
    have hul : (upL q).length ≤ 120 := by unfold upL; split; exact (by decide); exact h2
    have hus : (mk (upL q)).size ≤ 140737488351232 := by rw [mk_size]; omega
    have hU1 := Under_ev (mk (upL q)) a0 hus h0
    have hU2 := Under_ev a0 a0 h0 h0
    have hU3 := Under_ev a0 (mk (upL q)) h0 hus
    have e1 : underR (L (mk (upL q))) (L a0) = true := by
      unfold underR
      rw [L_mk, hq, h]
      simp
    have e2 : underR (L a0) (L a0) = true := by
      unfold underR
      rw [h]
      rw [List.take_of_length_le (Nat.le_refl _)]
      simp
    have e3 : underR (L a0) (L (mk (upL q))) = false := by
      unfold underR
      rw [L_mk, hq, h]
      rw [decide_eq_false (p := ((List.map mk (q ++ [z]), (0 : Int)).1.length ≤ _)) (by simp)]
      simp
    rw [e1] at hU1
    rw [e2] at hU2
    rw [e3] at hU3
    rw [h]
    have hn : ((q ++ [z]).map mk).length = q.length + 1 := by simp
    have er : rdOf ByteArray.empty ((q ++ [z]).map mk) (q.length : Int) = mk z := by
      rw [rd_nat _ _ (by omega)]
      simp
    have ew : wrap64 ((((q ++ [z]).map mk).length : Int) - 1) = (q.length : Int) := by rw [hn, wrap_id (by omega) (by omega)]; omega
    refine Ev.congr (fun k => if_pos rfl) ?_
    refine Ev.bind hJ ?_
    refine Ev.bind hP ?_
    refine Ev.congr (fun k => by rw [if_neg (show ¬ (((q ++ [z]).map mk).length : Int) = 0 by omega), if_pos rfl, if_pos rfl, if_pos rfl, ew, if_pos (show (0 : Int) ≤ (q.length : Int) by omega), if_pos (show (q.length : Int) < (((q ++ [z]).map mk).length : Int) by omega), er]) ?_
    refine Ev.congr (fun k => if_pos rfl) ?_
    refine Ev.bind hU1 ?_
    refine Ev.congr (fun k => if_pos rfl) ?_
    refine Ev.bind hU2 ?_
    refine Ev.congr (fun k => if_pos rfl) ?_
    exact Ev.bind hU3 (Ev.now _)
end Go.Proofs.YtmbpaienbmbhfaaDoor.Pure
