/- Part of a row that is put in order. -/
import Derived.Test.YtngncegokmppiaaSymE
import Derived.Sort.LotA
namespace Go.Proofs.Ytngncegokmppiaa.Flo
open Go Go.RowKit Go.Shelf Go.Lib Go.Sort Go.Proofs.YtngncegokmppiaaW.PrintWords Go.Proofs.YtngncegokmppiaaW.PrintLast Go.Proofs.YtngncegokmppiaaW.PrintMore
set_option linter.unusedVariables false
set_option linter.unusedSimpArgs false
theorem swoF : SWO (ltOf cmpF) where
  irrefl x := by
    unfold ltOf
    refine decide_eq_false ?_
    rw [cmpF_neg]; omega
  trans x y z h1 h2 := by
    unfold ltOf at *
    have h1 := of_decide_eq_true h1
    have h2 := of_decide_eq_true h2
    rw [cmpF_neg] at h1 h2
    refine decide_eq_true ?_
    rw [cmpF_neg]; omega
  ntrans x y z h1 h2 := by
    unfold ltOf at *
    have h1 := of_decide_eq_false h1
    have h2 := of_decide_eq_false h2
    rw [cmpF_neg] at h1 h2
    refine decide_eq_false ?_
    rw [cmpF_neg]; omega
theorem FR.row {w : World} {base g cap : Nat} {l : List Nat} (h : FR w base g cap l) (h0 : 0 < l.length) (d : Array Nat) (hd : d.size = l.length) (n : Nat) : FR ((putRow (Value.float .f64) w g 0 d).drewN n) base g cap d.toList := by
  have hown := Kd.own_of_R h
  refine Kd.R_of_own ?_ (fun _ _ => trivial)
  obtain ⟨h1, h2 | ⟨g', cap', cur, hv, hb, hh, h3, h4, h5, h6⟩⟩ := hown
  · omega
  · injection hv with hv _ hc
    injection hv with hv
    injection hv with hv
    subst hv hc
    refine ⟨by simp [encs], .inr ⟨g, cap, putCells (Value.float .f64) 0 d cur, rfl, hb, ?_, by simp; omega, h4, by simp [putCells]; omega, ?_⟩⟩
    · show (putRow (Value.float .f64) w g 0 d).heap[g]? = _
      unfold putRow mapBlock
      simp [Array.getElem?_modify, hh, onCells]
    · have hcs : l.length ≤ cur.size := by omega
      refine List.ext_getElem? fun j => ?_
      rw [List.getElem?_take]
      by_cases hj : j < d.size
      · rw [if_pos (by simpa using hj), Array.getElem?_toList]
        unfold putCells
        rw [Array.getElem?_mapIdx, Array.getElem?_eq_getElem (by omega), Option.map_some, if_pos (by omega), Nat.sub_zero, getElem!_pos d j hj]
        simp [encs, hj]
      · rw [if_neg (by simpa using hj), List.getElem?_eq_none (by simp [encs]; omega)]
theorem perm_parts {a b : Nat} {P X Q : List Nat} {d : Array Nat} (ha : P.length = a) (hb : a + X.length = b) (h : PermIn a b (P ++ X ++ Q).toArray d) : ∃ X', d.toList = P ++ X' ++ Q ∧ X'.Perm X := by
  obtain ⟨h1, h2, h3⟩ := h
  have hs : d.toList.length = (P ++ X ++ Q).length := by simpa using h1
  have hg : ∀ i, (i < a ∨ b ≤ i) → d.toList[i]? = (P ++ X ++ Q)[i]? := by
    intro i hi
    by_cases hl : i < (P ++ X ++ Q).length
    · have h_ := h2 i hi
      rw [getElem!_pos d i (by simpa using (by omega : i < d.toList.length)), getElem!_pos _ i (by simpa using hl)] at h_
      rw [Array.getElem?_toList, Array.getElem?_eq_getElem (by simpa using (by omega : i < d.toList.length)), List.getElem?_eq_getElem hl, h_]
      simp
    · rw [List.getElem?_eq_none (by omega), List.getElem?_eq_none (by omega)]
  refine ⟨(d.toList.drop a).take (b - a), ?_, ?_⟩
  · have e1 : d.toList.take a = P := by
      refine List.ext_getElem? fun i => ?_
      rw [List.getElem?_take]
      by_cases hi : i < a
      · rw [if_pos hi, hg i (.inl hi), List.append_assoc, List.getElem?_append_left (by omega)]
      · rw [if_neg hi, List.getElem?_eq_none (by omega)]
    have e2 : d.toList.drop b = Q := by
      refine List.ext_getElem? fun i => ?_
      rw [List.getElem?_drop, hg _ (.inr (by omega)), List.getElem?_append_right (by simp; omega)]
      congr 1
      simp
      omega
    have e3 : d.toList = d.toList.take a ++ ((d.toList.drop a).take (b - a) ++ (d.toList.drop a).drop (b - a)) := by
      rw [List.take_append_drop, List.take_append_drop]
    rw [List.drop_drop, show a + (b - a) = b by omega, e1, e2] at e3
    rw [List.append_assoc]
    exact e3
  · have e4 : ((P ++ X ++ Q).toArray.extract a b).toList = X := by
      simp [List.drop_take, ← ha]
      rw [show b - P.length = X.length by omega]
      simp
    rw [e4] at h3
    have e5 : (d.extract a b).toList = (d.toList.drop a).take (b - a) := by simp [List.extract_eq_take_drop, Array.toList_extract]
    rw [← e5]
    exact h3
theorem ins_part {w : World} {base g cap : Nat} (P X Q : List Nat) (N a b : Nat) (h : FR w base g cap (P ++ X ++ Q)) (hN : (P ++ X ++ Q).length = N) (ha : P.length = a) (hb : a + X.length = b) (h0 : 0 < N) (hl : N ≤ 4096) :
    Calls Try.prog 49 #[.slice (some ⟨g, 0, none⟩) N cap, .int .i64 a, .int .i64 b, .func (.func 11) #[] #[]] w fun e w' => e = .returned (.tuple #[]) ∧ ∃ Z, Srt Z ∧ Z.Perm X ∧ FR w' base g cap (P ++ Z ++ Q) ∧ Below base w w' := by
  obtain ⟨hH, hbb, hg⟩ := holdsF h (by omega)
  have eg : ∀ args w, (callFunc 11 args).run Try.prog w = .ok (.enter 11 args) w := enters_of Try.func11 (by kernel_rfl) rfl
  have hbN : b ≤ N := by simp at hN; omega
  have hs := Any.insertionSortCmpFunc_one Try.insF (Value.float .f64) (fun _ => rfl) cmpF 11 #[] g 0 cap a b (P ++ X ++ Q).toArray w eg (cmpReads g 0 _ w) hH (by omega) (by simp at hN ⊢; omega) (by simp at hN ⊢; omega)
  change Calls Try.prog 49 _ _ _ at hs
  rw [List.size_toArray, hN] at hs
  obtain ⟨hp, hso⟩ := insertionSort_holds swoF (P ++ X ++ Q).toArray a b (by omega) (by simp at hN ⊢; omega)
  refine hs.mono ?_
  rintro e w' ⟨rfl, n, rfl⟩
  obtain ⟨Z, hZ, hZp⟩ := perm_parts ha hb hp
  have hr := FR.row h (by omega) (insertionSort (ltOf cmpF) (P ++ X ++ Q).toArray a b) (by have := hp.1; simpa using this) n
  rw [hZ] at hr
  refine ⟨rfl, Z, ?_, hZp, hr, putF_frame w g n _ hbb⟩
  have hzl := hZp.length_eq
  refine List.pairwise_iff_getElem.2 fun i j hi hj hij => ?_
  have h_ := hso (a + i) (a + j) (by omega) (by omega) (by omega)
  have hsz : (insertionSort (ltOf cmpF) (P ++ X ++ Q).toArray a b).size = N := by rw [hp.1]; simp at hN ⊢; omega
  have ge : ∀ k (hk : k < Z.length), (insertionSort (ltOf cmpF) (P ++ X ++ Q).toArray a b)[a + k]! = Z[k] := by
    intro k hk
    have hak : a + k < (insertionSort (ltOf cmpF) (P ++ X ++ Q).toArray a b).size := by omega
    rw [getElem!_pos (insertionSort (ltOf cmpF) (P ++ X ++ Q).toArray a b) (a + k) hak]
    have e1 : (insertionSort (ltOf cmpF) (P ++ X ++ Q).toArray a b).toList[a + k]? = Z[k]? := by
      rw [hZ, List.append_assoc, List.getElem?_append_right (by omega), List.getElem?_append_left (by omega), ha]
      congr 1
      omega
    rw [Array.getElem?_toList, Array.getElem?_eq_getElem hak, List.getElem?_eq_getElem hk] at e1
    exact Option.some.inj e1
  rw [ge i hi, ge j hj] at h_
  unfold ltOf at h_
  have h_ := of_decide_eq_false h_
  rw [cmpF_neg] at h_
  omega
end Go.Proofs.Ytngncegokmppiaa.Flo
