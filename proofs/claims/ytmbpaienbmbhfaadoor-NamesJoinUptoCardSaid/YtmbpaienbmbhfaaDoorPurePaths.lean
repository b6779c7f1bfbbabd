/- The names of a path, in plain Lean. -/
import Derived.Test.YtmbpaienbmbhfaaDoorPureRight
namespace Go.Proofs.YtmbpaienbmbhfaaDoor.Pure
open Go Go.RowKit Go.Proofs.YtmbpaienbmbhfaaDoor.Str Go.Proofs.YtmbpaienbmbhfaaDoor.Print Go.Proofs.YtmbpaienbmbhfaaDoorW.PrintWords Go.Proofs.YtmbpaienbmbhfaaDoorW.PrintLast Go.Proofs.YtmbpaienbmbhfaaDoorW.PrintMore
set_option linter.unusedVariables false
set_option linter.unusedSimpArgs false
theorem L_mk (l : List UInt8) : L (mk l) = l := rfl
theorem mk_L (a : ByteArray) : mk (L a) = a := mk_data a
theorem mk_size (l : List UInt8) : (mk l).size = l.length := List.size_toArray
theorem L_app (a b : ByteArray) : L (a ++ b) = L a ++ L b := by simp [L, ByteArray.data_append]
theorem ext_gen (a : ByteArray) (f i : Nat) (h : i ≤ a.size) : a.extract f i = mk (((L a).drop f).take (i - f)) := by
  cases a with | mk d =>
  simp [mk, ByteArray.ext_iff, L]
  apply Array.toList_inj.1
  simp [List.extract]
theorem odd_ev (a : ByteArray) (ha : a.size ≤ 140737488351232) : Ev (fun k => names_odd.f k a) (!rightL (L a)) := Ev.bind (Right_ev a ha) (Ev.now _)
theorem anyOdd_ev (l : List ByteArray) : (∀ x ∈ l, x.size ≤ 140737488351232) → Ev (fun k => anyOdd k l) (l.any fun x => !rightL (L x)) := by
  induction l with
  | nil => intro _; exact Ev.now _
  | cons x r ih =>
    intro h
    refine Ev.congr (fun k => by unfold anyOdd; rfl) (Ev.bind (odd_ev x (h x (List.mem_cons_self ..))) ?_)
    rw [List.any_cons]
    cases hx : (!rightL (L x)) with
    | true => exact Ev.congr (f := fun _ => some true) (fun k => by simp) (by simpa using Ev.now _)
    | false => exact Ev.congr (fun k => if_neg (by simp)) (by simpa using ih fun y hy => h y (List.mem_cons_of_mem _ hy))
/-- A path's names. -/
def nsplitR (l : List UInt8) : List ByteArray × Int := if l.head? = some 47 then (if l.length > 120 then ([], 3) else if l.drop 1 = [] then ([], 0) else if (splitL (l.drop 1)).all rightL = true then ((splitL (l.drop 1)).map mk, 0) else ([], 3)) else ([], 3)
theorem cut_eq (a : ByteArray) : strings_CutPrefix.f a ⟨#[47]⟩ = some (if (L a).head? = some 47 then (mk ((L a).drop 1), true) else (a, false)) := by
  have hl := L_len a
  have hp : ((⟨#[47]⟩ : ByteArray).size : Int) = 1 := rfl
  unfold strings_CutPrefix.f stringslite_CutPrefix.f stringslite_HasPrefix.f
  rw [hp]
  cases hL : L a with
  | nil =>
    have : a.size = 0 := by rw [← hl, hL]; rfl
    rw [if_neg (by omega)]
    rfl
  | cons c r =>
    have hs : a.size = r.length + 1 := by rw [← hl, hL]; rfl
    rw [if_pos (by omega), if_pos (by omega), if_pos (by omega), Option.bind_some]
    have e1 : (a.extract 0 ((1 : Int)).toNat).toList = [c] := by rw [toL, show ((1 : Int)).toNat = 1 from rfl, ext_take, L_mk]; show (L a).take 1 = _; rw [hL]; rfl
    have e2 : (⟨#[47]⟩ : ByteArray).toList = [47] := by rw [toL]
    have e3 : a.extract ((1 : Int)).toNat a.size = mk ((L a).drop 1) := ext_drop a 1 (by omega)
    rw [e1, e2]
    by_cases hc : c = 47
    · subst hc
      rw [if_pos (by simp), if_pos (by omega), if_pos (by omega), e3, hL]
      rfl
    · rw [if_neg (by simpa using hc), if_neg (by simpa using hc)]
      rfl
theorem splitL_sub (l : List UInt8) : ∀ x ∈ splitL l, x.length ≤ l.length := by
  induction l with
  | nil => intro x hx; simp [splitL] at hx; simp [hx]
  | cons c r ih =>
    intro x hx
    unfold splitL at hx
    split at hx
    · rcases List.mem_cons.1 hx with rfl | hx
      · simp
      · have := ih x hx; simp; omega
    · cases hs : splitL r with
      | nil => rw [hs] at hx; simp at hx; subst hx; simp
      | cons h t =>
        rw [hs] at hx
        rcases List.mem_cons.1 hx with rfl | hx
        · have := ih h (by rw [hs]; exact List.mem_cons_self ..); simp; omega
        · have := ih x (by rw [hs]; exact List.mem_cons_of_mem _ hx); simp; omega
theorem splitL_ne (l : List UInt8) : splitL l ≠ [] := fun h => by have := splitL_len l; rw [h] at this; simp at this
theorem nsplit_ev (a : ByteArray) (ha : a.size ≤ 140737488351232) : Ev (fun k => names_Split.f k a) (nsplitR (L a)) := by
  have hl := L_len a
  refine Ev.congr (f := fun k => nsplitF k a) (fun k => rfl) ?_
  unfold nsplitF nsplitR
  rw [cut_eq]
  by_cases h1 : (L a).head? = some 47
  · rw [if_pos h1, if_pos h1]
    by_cases h2 : (L a).length > 120
    · rw [if_pos h2]
      exact Ev.congr (f := fun _ => some ([], 3)) (fun k => by rw [Option.bind_some, if_pos rfl, if_pos (by omega)]) (Ev.now _)
    · rw [if_neg h2]
      have hsz : (mk ((L a).drop 1)).size = ((L a).drop 1).length := mk_size _
      by_cases h3 : (L a).drop 1 = []
      · rw [if_pos h3]
        exact Ev.congr (f := fun _ => some ([], 0)) (fun k => by rw [Option.bind_some, if_pos rfl, if_neg (by omega), if_pos (by rw [hsz, h3]; rfl)]) (Ev.now _)
      · rw [if_neg h3]
        have hne : ((L a).drop 1).length ≠ 0 := fun h => h3 (List.eq_nil_of_length_eq_zero h)
        have hle : ((L a).drop 1).length ≤ (L a).length := by rw [List.length_drop]; omega
        have hsb : splitB (mk ((L a).drop 1)) = (splitL ((L a).drop 1)).map mk := rfl
        have ho := anyOdd_ev ((splitL ((L a).drop 1)).map mk) (fun x hx => by
          obtain ⟨y, hy, rfl⟩ := List.mem_map.1 hx
          have := splitL_sub _ y hy
          rw [mk_size]; omega)
        have he : (((splitL ((L a).drop 1)).map mk).any fun x => !rightL (L x)) = !((splitL ((L a).drop 1)).all rightL) := by
          rw [List.any_map, List.not_all_eq_any_not]
          rfl
        rw [he] at ho
        refine Ev.congr (fun k => by rw [Option.bind_some, if_pos rfl, if_neg (by omega), if_neg (by rw [hsz]; exact hne), if_pos (by rw [hsz]; omega), hsb]) (Ev.bind ho ?_)
        cases (splitL ((L a).drop 1)).all rightL with
        | true => exact Ev.congr (f := fun _ => some _) (fun k => if_neg (by simp)) (by simpa using Ev.now _)
        | false => exact Ev.congr (f := fun _ => some ([], 3)) (fun k => if_pos (by simp)) (by simpa using Ev.now _)
  · rw [if_neg h1, if_neg h1]
    exact Ev.congr (f := fun _ => some ([], 3)) (fun k => by simp) (Ev.now _)
/-! The document's. -/
def joinS (l : List (List UInt8)) : List UInt8 := (l.map fun x => 47 :: x).flatten
theorem joinS_cons (x : List UInt8) (l : List (List UInt8)) : joinS (x :: l) = 47 :: x ++ joinS l := rfl
theorem joinS_split (l : List UInt8) : joinS (splitL l) = 47 :: l := by
  induction l with
  | nil => rfl
  | cons c r ih =>
    have e : splitL (c :: r) = if c = 47 then [] :: splitL r else match splitL r with | h :: t => (c :: h) :: t | [] => [[c]] := rfl
    rw [e]
    by_cases hc : c = 47
    · rw [if_pos hc, joinS_cons, ih, hc]; rfl
    · rw [if_neg hc]
      cases hs : splitL r with
      | nil => exact absurd hs (splitL_ne r)
      | cons h t =>
        rw [hs, joinS_cons] at ih
        simp only [List.cons_append, List.cons.injEq, true_and] at ih
        rw [joinS_cons, ← ih]; rfl
theorem rd_nat (l : List ByteArray) (i : Nat) (h : i < l.length) : rdOf ByteArray.empty l (i : Int) = l[i] := by
  unfold rdOf; rw [Int.toNat_natCast, List.getD_eq_getElem?_getD, List.getElem?_eq_getElem h]; rfl
def joinR (l : List (List UInt8)) : List UInt8 × Int := if l.all rightL = true then (if (joinS l).length > 120 then ([], 3) else (joinS l, 0)) else ([], 3)
theorem joinS_mem {l : List (List UInt8)} {x : List UInt8} (h : x ∈ l) : x.length ≤ (joinS l).length := by
  induction l with
  | nil => cases h
  | cons y r ih =>
    rw [joinS_cons, List.length_append, List.length_cons]
    rcases List.mem_cons.1 h with rfl | h
    · omega
    · have := ih h; omega
theorem refJoin_ev (l : List ByteArray) (hl : l.length ≤ 1000000000000000) (hs : (joinS (l.map L)).length ≤ 140737488351232) (hne : l ≠ []) : Ev (fun k => escritoireref04_Join.f k l) (mk (joinR (l.map L)).1, (joinR (l.map L)).2) := by
  have key : ∀ (d i : Nat) (s : ByteArray), i + d = l.length → s.size + (joinS ((l.drop i).map L)).length ≤ 140737488351232 → Ev (fun k => escritoireref04_Join.l0 k l s (i : Int)) (if ((l.drop i).map L).all rightL = true then (if (L s ++ joinS ((l.drop i).map L)).length > 120 then (mk [], (3 : Int)) else (mk (L s ++ joinS ((l.drop i).map L)), 0)) else (mk [], 3)) := by
    intro d
    induction d with
    | zero =>
      intro i s hi _
      have hls := L_len s
      rw [List.drop_of_length_le (by omega), List.map_nil]
      rw [show joinS [] = ([] : List UInt8) from rfl, List.append_nil, mk_L, if_pos (by simp)]
      refine Ev.step (f := fun _ => some _) (fun k => ?_) (Ev.now _)
      simp only [escritoireref04_Join.l0]
      rw [if_neg (by omega)]
      by_cases h : (L s).length > 120
      · rw [if_pos h, if_pos (by omega)]; rfl
      · rw [if_neg h, if_neg (by omega)]
    | succ d ih =>
      intro i s hi hsz
      have hil : i < l.length := by omega
      have hls := L_len s
      have hlx := L_len l[i]
      rw [List.drop_eq_getElem_cons hil, List.map_cons, joinS_cons, List.length_append, List.length_cons] at hsz
      have hR := refRight_ev l[i] (by omega)
      rw [List.drop_eq_getElem_cons hil, List.map_cons, List.all_cons, joinS_cons]
      refine Ev.step (fun k => by simp only [escritoireref04_Join.l0]; rw [if_pos (by omega), if_pos (by omega), rd_nat l i hil]) (Ev.bind hR ?_)
      cases hr : rightL (L l[i]) with
      | false => exact Ev.congr (f := fun _ => some (mk [], 3)) (fun k => if_neg (by simp)) (by simpa using Ev.now _)
      | true =>
        have hsz2 : ((⟨#[47]⟩ : ByteArray) ++ l[i]).size = 1 + l[i].size := by rw [ByteArray.size_append]; rfl
        have e : L (s ++ ((⟨#[47]⟩ : ByteArray) ++ l[i])) = L s ++ 47 :: L l[i] := by rw [L_app, L_app]; rfl
        have ih2 := ih (i + 1) (s ++ ((⟨#[47]⟩ : ByteArray) ++ l[i])) (by omega) (by rw [ByteArray.size_append, hsz2]; omega)
        rw [e, List.append_assoc] at ih2
        rw [Bool.true_and]
        refine Ev.congr (fun k => ?_) ih2
        rw [if_pos rfl, if_pos (by omega), if_pos (by rw [hsz2]; omega), wrap_id (by omega) (by omega)]
        rfl
  have hlen : l.length ≠ 0 := fun h => hne (List.eq_nil_of_length_eq_zero h)
  have h := key l.length 0 ⟨#[]⟩ (by omega) (by rw [List.drop_zero]; show 0 + _ ≤ _; omega)
  rw [List.drop_zero, show L (⟨#[]⟩ : ByteArray) = [] from rfl, List.nil_append] at h
  refine Ev.congr (fun k => by unfold escritoireref04_Join.f; rw [if_neg (by omega)]) ?_
  unfold joinR
  split
  · rename_i h1
    rw [if_pos h1] at h
    split
    · rename_i h2; rw [if_pos h2] at h; exact h
    · rename_i h2; rw [if_neg h2] at h; exact h
  · rename_i h1; rw [if_neg h1] at h; exact h
end Go.Proofs.YtmbpaienbmbhfaaDoor.Pure
