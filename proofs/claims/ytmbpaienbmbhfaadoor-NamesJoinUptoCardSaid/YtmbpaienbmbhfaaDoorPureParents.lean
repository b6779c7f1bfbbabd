import Derived.Test.YtmbpaienbmbhfaaDoorPureNamesPaths
import Derived.Test.YtmbpaienbmbhfaaDoorPureNamesBuckets
namespace Go.Proofs.YtmbpaienbmbhfaaDoor.Pure
open Go Go.RowKit Go.Proofs.YtmbpaienbmbhfaaDoor.Str Go.Proofs.YtmbpaienbmbhfaaDoor.Print Go.Proofs.YtmbpaienbmbhfaaDoorW.PrintWords Go.Proofs.YtmbpaienbmbhfaaDoorW.PrintLast Go.Proofs.YtmbpaienbmbhfaaDoorW.PrintMore
set_option maxRecDepth 100000
/-! Paths of names, parents, what lies under what, places. -/
theorem join47 (l : List ByteArray) (hne : l ≠ []) : 47 :: joinL l = joinS (l.map L) := by
  obtain ⟨x, r, rfl⟩ : ∃ x r, l = x :: r := by cases l with | nil => exact absurd rfl hne | cons x r => exact ⟨x, r, rfl⟩
  unfold joinL
  rw [List.map_cons, Lib.join_cons]
  show 47 :: (L x ++ Lib.joinTail [47] (r.map fun x => x.data.toList)) = 47 :: (L x ++ joinS (r.map L))
  unfold Lib.joinTail joinS
  rw [List.map_map, List.map_map]
  rfl
/-- The path of such names. -/
def upL (ps : List (List UInt8)) : List UInt8 := if ps = [] then [47] else joinS ps
theorem njoin_ev (ps : List (List UInt8)) (hall : ps.all rightL = true) (hl : (joinS ps).length ≤ 120) : Ev (fun k => names_Join.f k (ps.map mk)) (mk (upL ps), 0) := by
  have hpl := joinS_len ps
  refine Ev.congr (f := fun k => njoinF k (ps.map mk)) (fun k => rfl) ?_
  by_cases h : ps = []
  · subst h; exact Ev.now _
  · have e := join47 (ps.map mk) (fun h2 => h (List.map_eq_nil_iff.1 h2))
    rw [map_L_mk] at e
    have he : (joinL (ps.map mk)).length + 1 = (joinS ps).length := by rw [← e]; rfl
    have hp : ((⟨#[47]⟩ : ByteArray) ++ mk (joinL (ps.map mk))) = mk (joinS ps) := by
      rw [← e]; apply ByteArray.ext; simp [mk, ByteArray.data_append]
    have ho := anyOdd_ev (ps.map mk) (fun x hx => by
      obtain ⟨y, hy, rfl⟩ := List.mem_map.1 hx
      have := joinS_mem hy
      rw [mk_size]; omega)
    have hz : ((ps.map mk).any fun x => !rightL (L x)) = false := by
      rw [List.any_map, show (((fun x => !rightL (L x)) ∘ mk) : List UInt8 → Bool) = fun x => !rightL x from rfl]
      have : (!ps.all rightL) = ps.any fun a => !rightL a := List.not_all_eq_any_not
      rw [hall] at this
      exact this.symm
    rw [hz] at ho
    unfold njoinF upL
    rw [if_neg h, hp]
    refine Ev.congr (fun k => by rw [if_pos ⟨by rw [List.length_map]; omega, by omega⟩, if_neg (by rw [mk_size]; omega)]) (Ev.bind ho (Ev.congr (f := fun _ => some _) (fun k => if_neg Bool.false_ne_true) (Ev.now _)))
theorem rjoin_ev (ps : List (List UInt8)) (hall : ps.all rightL = true) (hl : (joinS ps).length ≤ 120) : Ev (fun k => escritoireref04_Join.f k (ps.map mk)) (mk (upL ps), 0) := by
  have hpl := joinS_len ps
  by_cases h : ps = []
  · subst h; exact Ev.now _
  · have hJ := refJoin_ev (ps.map mk) (by rw [List.length_map]; omega) (by rw [map_L_mk]; omega) (fun h2 => h (List.map_eq_nil_iff.1 h2))
    rw [map_L_mk] at hJ
    unfold joinR at hJ
    rw [if_pos hall, if_neg (by omega)] at hJ
    unfold upL
    rw [if_neg h]
    exact hJ
/-- A path's parent, and its last name. -/
def parentR (l : List UInt8) : ByteArray × ByteArray × Int :=
  if (nsplitR l).2 = 0 then (if (nsplitR l).1 = [] then (mk [], mk [], 1) else (mk (upL (((nsplitR l).1.map L).dropLast)), (nsplitR l).1.getLastD ByteArray.empty, 0)) else (mk [], mk [], (nsplitR l).2)
theorem joinS_append (a b : List (List UInt8)) : joinS (a ++ b) = joinS a ++ joinS b := by unfold joinS; rw [List.map_append, List.flatten_append]
theorem parts_cut (ps : List (List UInt8)) (hne : ps ≠ []) : ∃ q z, ps = q ++ [z] := ⟨ps.dropLast, ps.getLast hne, (List.dropLast_concat_getLast hne).symm⟩
theorem parent_list (q : List (List UInt8)) (z : List UInt8) (hall : (q ++ [z]).all rightL = true) (hl : (joinS (q ++ [z])).length ≤ 120) : q.all rightL = true ∧ (joinS q).length ≤ 120 ∧ q.length ≤ 120 := by
  rw [List.all_append, Bool.and_eq_true] at hall
  rw [joinS_append, List.length_append] at hl
  have := joinS_len q
  exact ⟨hall.1, by omega, by omega⟩
theorem parentR_list {l : List UInt8} {q : List (List UInt8)} {z : List UInt8} (h : nsplitR l = ((q ++ [z]).map mk, 0)) : parentR l = (mk (upL q), mk z, 0) := by
  unfold parentR
  rw [h, if_pos rfl, if_neg (by simp)]
  rw [map_L_mk, List.dropLast_concat, List.map_append]
  show (_, ((List.map mk q) ++ [mk z]).getLastD ByteArray.empty, _) = _
  rw [List.getLastD_eq_getLast?, List.getLast?_concat]
  rfl
theorem Parent_ev (a : ByteArray) (ha : a.size ≤ 140737488351232) : Ev (fun k => names_Parent.f k a) (parentR (L a)) := by
  refine Ev.congr (fun k => by unfold names_Parent.f; rfl) (Ev.bind (nsplit_ev a ha) ?_)
  rcases nsplitR_cases (L a) with h | ⟨h, _⟩ | ⟨ps, hne, h, hall, hj, hl⟩
  · have e : parentR (L a) = (mk [], mk [], 3) := by unfold parentR; rw [h]; rfl
    rw [e, h]; exact Ev.now _
  · have e : parentR (L a) = (mk [], mk [], 1) := by unfold parentR; rw [h]; rfl
    rw [e, h]; exact Ev.now _
  · obtain ⟨q, z, rfl⟩ := parts_cut ps hne
    rw [← hj] at hl
    obtain ⟨h1, h2, h3⟩ := parent_list q z hall hl
    rw [parentR_list h, h]
    have hn : ((q ++ [z]).map mk).length = q.length + 1 := by simp
    have et : ((q ++ [z]).map mk).take q.length = q.map mk := by rw [List.map_append]; exact List.take_left' (List.length_map ..)
    have er : rdOf ByteArray.empty ((q ++ [z]).map mk) (q.length : Int) = mk z := by
      rw [rd_nat _ _ (by omega)]
      simp
    have ew : wrap64 ((((q ++ [z]).map mk).length : Int) - 1) = (q.length : Int) := by rw [hn, wrap_id (by omega) (by omega)]; omega
    refine Ev.congr (fun k => by dsimp only; rw [if_pos rfl, if_neg (by omega), ew, if_pos (by omega), if_pos (by omega), Int.toNat_natCast, et]) (Ev.bind (njoin_ev q h1 h2) (Ev.congr (f := fun _ => some _) (fun k => by dsimp only; rw [if_pos (by omega), er]) (Ev.now _)))
theorem refParent_ev (a : ByteArray) (ha : a.size ≤ 1048576) : Ev (fun k => escritoireref04_Parent.f k a) (parentR (L a)) := by
  refine Ev.congr (fun k => by unfold escritoireref04_Parent.f; rfl) (Ev.bind (refSplit_ev a ha) ?_)
  rcases nsplitR_cases (L a) with h | ⟨h, _⟩ | ⟨ps, hne, h, hall, hj, hl⟩
  · have e : parentR (L a) = (mk [], mk [], 3) := by unfold parentR; rw [h]; rfl
    rw [e, h]; exact Ev.now _
  · have e : parentR (L a) = (mk [], mk [], 1) := by unfold parentR; rw [h]; rfl
    rw [e, h]; exact Ev.now _
  · obtain ⟨q, z, rfl⟩ := parts_cut ps hne
    rw [← hj] at hl
    obtain ⟨h1, h2, h3⟩ := parent_list q z hall hl
    rw [parentR_list h, h]
    have hn : ((q ++ [z]).map mk).length = q.length + 1 := by simp
    have et : ((q ++ [z]).map mk).take q.length = q.map mk := by rw [List.map_append]; exact List.take_left' (List.length_map ..)
    have er : rdOf ByteArray.empty ((q ++ [z]).map mk) (q.length : Int) = mk z := by
      rw [rd_nat _ _ (by omega)]
      simp
    have ew : wrap64 ((((q ++ [z]).map mk).length : Int) - 1) = (q.length : Int) := by rw [hn, wrap_id (by omega) (by omega)]; omega
    refine Ev.congr (fun k => by dsimp only; rw [if_pos rfl, if_neg (by omega), ew, if_pos (by omega), if_pos (by omega), Int.toNat_natCast, et]) (Ev.bind (rjoin_ev q h1 h2) (Ev.congr (f := fun _ => some _) (fun k => by dsimp only; rw [if_pos (by omega), er]) (Ev.now _)))
/-! ### under -/
theorem toList_inj {a b : ByteArray} : a.toList = b.toList ↔ a = b := by
  constructor
  · intro h; rw [toL, toL] at h; rw [← mk_L a, ← mk_L b, h]
  · rintro rfl; rfl
theorem drop_eq_iff (x y : List ByteArray) (i : Nat) (hx : i < x.length) (hy : i < y.length) : (x.drop i = y.drop i) ↔ (x[i] = y[i] ∧ x.drop (i + 1) = y.drop (i + 1)) := by
  rw [List.drop_eq_getElem_cons hx, List.drop_eq_getElem_cons hy, List.cons.injEq]
theorem drop_eq_dec (x y : List ByteArray) (i : Nat) (hx : i < x.length) (hy : i < y.length) : decide (x.drop i = y.drop i) = (decide (x[i] = y[i]) && decide (x.drop (i + 1) = y.drop (i + 1))) := by
  rw [← Bool.decide_and]
  exact decide_eq_decide.2 (drop_eq_iff x y i hx hy)
theorem Equal_ev (x y : List ByteArray) (hl : x.length ≤ 1000000) : Ev (fun k => slices_Equal_string_string.f k x y) (decide (x = y)) := by
  by_cases hn : x.length = y.length
  · have key : ∀ (d i : Nat), i + d = x.length → Ev (fun k => slices_Equal_string_string.l0 k x y (x.length : Int) (i : Int)) (decide (x.drop i = y.drop i)) := by
      intro d
      induction d with
      | zero =>
        intro i hi
        rw [List.drop_of_length_le (by omega), List.drop_of_length_le (by omega), decide_eq_true rfl]
        exact Ev.step (f := fun _ => some true) (fun k => by simp only [slices_Equal_string_string.l0]; rw [if_neg (by omega)]) (Ev.now _)
      | succ d ih =>
        intro i hi
        have hi1 : i < x.length := by omega
        have hi2 : i < y.length := by omega
        rw [drop_eq_dec x y i hi1 hi2]
        refine Ev.step (fun k => by simp only [slices_Equal_string_string.l0]; rw [if_pos (by omega), if_pos (by omega), if_pos (by omega), if_pos (by omega), rd_nat x i hi1, rd_nat y i hi2, wrap_id (by omega) (by omega)]) ?_
        by_cases h : x[i] = y[i]
        · have := ih (i + 1) (by omega)
          simp only [h, decide_true, Bool.true_and]
          exact Ev.congr (fun k => if_pos True.intro) this
        · simp only [h, decide_false, Bool.false_and]
          exact Ev.congr (f := fun _ => some false) (fun k => if_neg (fun e => h (toList_inj.1 e))) (Ev.now _)
    exact Ev.congr (fun k => by unfold slices_Equal_string_string.f; rw [if_pos (by omega)]; rfl) (key x.length 0 (by omega))
  · rw [decide_eq_false (fun h => hn (by rw [h]))]
    exact Ev.congr (f := fun _ => some false) (fun k => by unfold slices_Equal_string_string.f; rw [if_neg (by omega)]) (Ev.now _)
/-- One path under another. -/
def underR (a b : List UInt8) : Bool := decide ((nsplitR a).2 = 0) && decide ((nsplitR b).2 = 0) && decide ((nsplitR a).1.length ≤ (nsplitR b).1.length) && decide ((nsplitR a).1 = (nsplitR b).1.take (nsplitR a).1.length)
theorem Under_ev (a b : ByteArray) (ha : a.size ≤ 140737488351232) (hb : b.size ≤ 140737488351232) : Ev (fun k => names_Under.f k a b) (underR (L a) (L b)) := by
  refine Ev.congr (fun k => by unfold names_Under.f; rfl) (Ev.bind (nsplit_ev a ha) (Ev.bind (nsplit_ev b hb) ?_))
  unfold underR
  have hla := nsplitR_len (L a)
  by_cases h1 : (nsplitR (L a)).2 = 0
  · by_cases h2 : (nsplitR (L b)).2 = 0
    · by_cases h3 : (nsplitR (L a)).1.length ≤ (nsplitR (L b)).1.length
      · have hE := Equal_ev (nsplitR (L a)).1 ((nsplitR (L b)).1.take (nsplitR (L a)).1.length) (by omega)
        rw [decide_eq_true h1, decide_eq_true h2, decide_eq_true h3, Bool.true_and, Bool.true_and, Bool.true_and]
        exact Ev.congr (fun k => by rw [if_pos h1, if_pos h2, if_pos (by omega), if_pos (by omega), Int.toNat_natCast]) (Ev.bind hE (Ev.now _))
      · rw [decide_eq_false h3]
        exact Ev.congr (f := fun _ => some false) (fun k => by rw [if_pos h1, if_pos h2, if_neg (by omega)]) (by simpa using Ev.now _)
    · rw [decide_eq_false h2]
      exact Ev.congr (f := fun _ => some false) (fun k => by rw [if_pos h1, if_neg h2]) (by simpa using Ev.now _)
  · rw [decide_eq_false h1]
    exact Ev.congr (f := fun _ => some false) (fun k => by rw [if_neg h1]) (by simpa using Ev.now _)
theorem refUnder_l (x y : List ByteArray) (hl : x.length ≤ 1000000) (hxy : x.length ≤ y.length) : Ev (fun k => escritoireref04_Under.l0 k x y 0) (decide (x = y.take x.length)) := by
  have key : ∀ (d i : Nat), i + d = x.length → Ev (fun k => escritoireref04_Under.l0 k x y (i : Int)) (decide (x.drop i = (y.take x.length).drop i)) := by
    intro d
    induction d with
    | zero =>
      intro i hi
      rw [List.drop_of_length_le (by omega), List.drop_of_length_le (by rw [List.length_take]; omega), decide_eq_true rfl]
      exact Ev.step (f := fun _ => some true) (fun k => by simp only [escritoireref04_Under.l0]; rw [if_neg (by omega)]) (Ev.now _)
    | succ d ih =>
      intro i hi
      have hi1 : i < x.length := by omega
      have hi2 : i < y.length := by omega
      have hi3 : i < (y.take x.length).length := by rw [List.length_take]; omega
      rw [drop_eq_dec x _ i hi1 hi3]
      have eg : (y.take x.length)[i] = y[i] := List.getElem_take
      rw [eg]
      refine Ev.step (fun k => by simp only [escritoireref04_Under.l0]; rw [if_pos (by omega), if_pos (by omega), if_pos (by omega), rd_nat x i hi1, rd_nat y i hi2, wrap_id (by omega) (by omega)]) ?_
      by_cases h : x[i] = y[i]
      · have := ih (i + 1) (by omega)
        simp only [h, decide_true, Bool.true_and]
        exact Ev.congr (fun k => if_pos True.intro) this
      · simp only [h, decide_false, Bool.false_and]
        exact Ev.congr (f := fun _ => some false) (fun k => if_neg (fun e => h (toList_inj.1 e))) (Ev.now _)
  exact key x.length 0 (by omega)
theorem refUnder_ev (a b : ByteArray) (ha : a.size ≤ 1048576) (hb : b.size ≤ 1048576) : Ev (fun k => escritoireref04_Under.f k a b) (underR (L a) (L b)) := by
  refine Ev.congr (fun k => by unfold escritoireref04_Under.f; rfl) (Ev.bind (refSplit_ev a ha) (Ev.bind (refSplit_ev b hb) ?_))
  unfold underR
  have hla := nsplitR_len (L a)
  have off : ∀ x y : List ByteArray, Ev (fun k => escritoireref04_Under.j0 k x y true) false := fun x y => Ev.step (f := fun _ => some false) (fun k => by simp only [escritoireref04_Under.j0]; rw [if_pos True.intro]) (Ev.now _)
  by_cases h1 : (nsplitR (L a)).2 = 0
  · by_cases h2 : (nsplitR (L b)).2 = 0
    · by_cases h3 : (nsplitR (L a)).1.length ≤ (nsplitR (L b)).1.length
      · have hE := refUnder_l (nsplitR (L a)).1 (nsplitR (L b)).1 (by omega) h3
        rw [decide_eq_true h1, decide_eq_true h2, decide_eq_true h3, Bool.true_and, Bool.true_and, Bool.true_and]
        refine Ev.congr (fun k => by rw [if_pos h1, if_pos h2, decide_eq_false (by omega)]) (Ev.step (fun k => ?_) hE)
        simp only [escritoireref04_Under.j0]
        rw [if_neg (by simp)]
      · rw [decide_eq_false h3]
        exact Ev.congr (fun k => by rw [if_pos h1, if_pos h2, decide_eq_true (by omega)]) (by simpa using off _ _)
    · rw [decide_eq_false h2]
      exact Ev.congr (fun k => by rw [if_pos h1, if_neg h2]) (by simpa using off _ _)
  · rw [decide_eq_false h1]
    exact Ev.congr (fun k => by rw [if_neg h1]) (by simpa using off _ _)
/-! ### places -/
theorem refhash_l_ev (s : ByteArray) (hs : s.size ≤ 140737488351232) : ∀ (d i : Nat) (h : Int), i + d = s.size → Ev (fun k => escritoireref01_Hash.l0 k s h (i : Int)) (hashFrom h ((bytesOf s).drop i)) := by
  intro d
  induction d with
  | zero =>
    intro i h hi
    rw [List.drop_of_length_le (by rw [bytesOf_length]; omega)]
    exact Ev.step (fun k => by rw [escritoireref01_Hash.l0, if_neg (by omega)]; rfl) (Ev.now _)
  | succ d ih =>
    intro i h hi
    have hl : i < (bytesOf s).length := by rw [bytesOf_length]; omega
    rw [List.drop_eq_getElem_cons hl]
    have h1 := ih (i + 1) (hashStep h (bytesOf s)[i]) (by omega)
    refine Ev.step (fun k => ?_) h1
    have er : rd (bytesOf s) (i : Int) = (bytesOf s)[i] := by unfold rd; simp [hl]
    rw [escritoireref01_Hash.l0, if_pos (by omega), if_pos (by omega), wrap_id (by omega) (by omega), ← rd_bytesOf, er]
    rfl
theorem refHash_ev (s : ByteArray) (hs : s.size ≤ 140737488351232) : Ev (fun k => escritoireref01_Hash.f k s) (hashFrom 14695981039346656037 (bytesOf s)) := refhash_l_ev s hs s.size 0 _ (by omega)
theorem bucket_two (a : ByteArray) (n : Int) (ha : a.size ≤ 140737488351232) (hn : n < 9223372036854775808) : ∃ r, names_Bucket.f a n = some r ∧ Ev (fun k => escritoireref04_Bucket.f k a n) r := by
  by_cases h : n < 1
  · exact ⟨0, by unfold names_Bucket.f; rw [if_pos h], Ev.congr (f := fun _ => some 0) (fun k => by unfold escritoireref04_Bucket.f; rw [if_pos h]) (Ev.now _)⟩
  · have hw : ¬ IntKind.u64.wrap n = 0 := by rw [wrapu_id (by omega) (by omega)]; omega
    refine ⟨wrap64 (Int.tmod (hashFrom 14695981039346656037 (bytesOf a)) (IntKind.u64.wrap n)), ?_, ?_⟩
    · unfold names_Bucket.f words_Hash.f
      rw [if_neg h, if_pos (by omega), Option.bind_some, if_neg hw]
    · exact Ev.congr (fun k => by unfold escritoireref04_Bucket.f; rw [if_neg h]) (Ev.bind (refHash_ev a ha) (Ev.congr (f := fun _ => some _) (fun k => if_neg hw) (Ev.now _)))
end Go.Proofs.YtmbpaienbmbhfaaDoor.Pure
