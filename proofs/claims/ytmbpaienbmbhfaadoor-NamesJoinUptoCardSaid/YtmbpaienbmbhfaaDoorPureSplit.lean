import Derived.Test.YtmbpaienbmbhfaaDoorPurePaths
namespace Go.Proofs.YtmbpaienbmbhfaaDoor.Pure
open Go Go.RowKit Go.Proofs.YtmbpaienbmbhfaaDoor.Str Go.Proofs.YtmbpaienbmbhfaaDoor.Print Go.Proofs.YtmbpaienbmbhfaaDoorW.PrintWords Go.Proofs.YtmbpaienbmbhfaaDoorW.PrintLast Go.Proofs.YtmbpaienbmbhfaaDoorW.PrintMore
set_option maxRecDepth 100000
/-! The document's Split is the program's. -/
theorem splitL_at {l : List UInt8} (q : List UInt8) (h : (47 : UInt8) ∉ l) : splitL (l ++ 47 :: q) = l :: splitL q := by
  induction l with
  | nil => rfl
  | cons c r ih =>
    have hc : c ≠ 47 := fun e => h (by rw [e]; exact List.mem_cons_self ..)
    have hr : (47 : UInt8) ∉ r := fun e => h (List.mem_cons_of_mem _ e)
    show (if c = 47 then [] :: splitL (r ++ 47 :: q) else match splitL (r ++ 47 :: q) with | h :: t => (c :: h) :: t | [] => [[c]]) = _
    rw [if_neg hc, ih hr]
theorem refSplit_loop (a : ByteArray) (hp : (a.toList != ([47] : List UInt8)) = true) (ha : a.size ≤ 1048576) (v : List ByteArray × Int) (X : List ByteArray)
    (hfin : Ev (fun k => escritoireref04_Split.l0 k a X ((a.size : Int) + 1) ((a.size : Int) + 1)) v) :
    ∀ (d i from_ : Nat) (l : List ByteArray), i + d = a.size → 1 ≤ from_ → from_ ≤ i → l.length < from_ → (47 : UInt8) ∉ ((L a).drop from_).take (i - from_) →
      X = l ++ (splitL ((L a).drop from_)).map mk → Ev (fun k => escritoireref04_Split.l0 k a l (from_ : Int) (i : Int)) v := by
  have hL := L_len a
  intro d
  induction d with
  | zero =>
    intro i f l hi hf hfi hl hn hX
    have e1 : ((L a).drop f).take (i - f) = (L a).drop f := List.take_of_length_le (by rw [List.length_drop]; omega)
    have e2 : a.extract f i = mk ((L a).drop f) := by rw [ext_gen a f i (by omega), e1]
    rw [e1] at hn
    rw [splitL_one hn] at hX
    refine Ev.step (fun k => by simp only [escritoireref04_Split.l0]; rw [if_pos (by omega)]) (Ev.step (fun k => ?_) (by rw [hX] at hfin; exact hfin))
    simp only [escritoireref04_Split.j1]
    rw [if_pos hp, if_pos (by omega), if_pos (by omega), if_pos (by omega), if_pos (by omega), if_pos (by omega), Int.toNat_natCast, Int.toNat_natCast, e2, wrap_id (by omega) (by omega), show (i : Int) = (a.size : Int) by omega]
    rfl
  | succ d ih =>
    intro i f l hi hf hfi hl hn hX
    have hil : i < (L a).length := by omega
    have e0 : (L a).drop f = ((L a).drop f).take (i - f) ++ (L a)[i] :: (L a).drop (i + 1) := by
      conv => lhs; rw [← List.take_append_drop (i - f) ((L a).drop f)]
      rw [List.drop_drop, show f + (i - f) = i by omega, List.drop_eq_getElem_cons hil]
    refine Ev.step (fun k => by simp only [escritoireref04_Split.l0]; rw [if_pos (by omega)]) ?_
    by_cases hc : (L a)[i] = 47
    · have e2 : a.extract f i = mk (((L a).drop f).take (i - f)) := ext_gen a f i (by omega)
      have e3 : splitL ((L a).drop f) = ((L a).drop f).take (i - f) :: splitL ((L a).drop (i + 1)) := by
        conv => lhs; rw [e0, hc]
        exact splitL_at _ hn
      have h := ih (i + 1) (i + 1) (l ++ [mk (((L a).drop f).take (i - f))]) (by omega) (by omega) (by omega) (by simp; omega) (by simp) (by rw [hX, e3]; simp)
      refine Ev.step (fun k => ?_) h
      simp only [escritoireref04_Split.j1]
      rw [if_pos hp, if_neg (by omega), if_pos (by omega), if_pos (by omega), bt_nat a i hil, hc, if_pos (by rfl), if_pos (by omega), if_pos (by omega), if_pos (by omega), if_pos (by omega), Int.toNat_natCast, Int.toNat_natCast, e2, wrap_id (by omega) (by omega)]
      rfl
    · have hc' : ¬ (((L a)[i]).toNat : Int) = 47 := fun e => hc (UInt8.toNat_inj.1 (by show ((L a)[i]).toNat = 47; omega))
      have e4 : ((L a).drop f).take (i + 1 - f) = ((L a).drop f).take (i - f) ++ [(L a)[i]] := by
        rw [show i + 1 - f = (i - f) + 1 by omega, List.take_add_one, List.getElem?_drop, show f + (i - f) = i by omega, List.getElem?_eq_getElem hil]; rfl
      have h := ih (i + 1) f l (by omega) hf (by omega) hl (by rw [e4]; intro h; rcases List.mem_append.1 h with h | h; exact hn h; exact hc (List.mem_singleton.1 h).symm) hX
      refine Ev.step (fun k => ?_) h
      simp only [escritoireref04_Split.j1]
      rw [if_pos hp, if_neg (by omega), if_pos (by omega), if_pos (by omega), bt_nat a i hil, if_neg hc', wrap_id (by omega) (by omega)]
      rfl
theorem joinS_len (l : List (List UInt8)) : l.length ≤ (joinS l).length := by
  induction l with
  | nil => exact Nat.le_refl _
  | cons x r ih => rw [joinS_cons, List.length_append, List.length_cons, List.length_cons]; omega
theorem map_L_mk (l : List (List UInt8)) : (l.map mk).map L = l := by
  rw [List.map_map]; exact List.map_id _
theorem refSplit_ev (a : ByteArray) (ha : a.size ≤ 1048576) : Ev (fun k => escritoireref04_Split.f k a) (nsplitR (L a)) := by
  have hL := L_len a
  have fin : ∀ (X : List ByteArray) (i : Int) (b : Bool) (s : ByteArray) (e : Int) (v : List ByteArray × Int), Ev (fun k => escritoireref04_Join.f k X) (s, e) →
      (if e = 0 then (if s.toList = a.toList then (X, (0 : Int)) else ([], 3)) else ([], 3)) = v → Ev (fun k => escritoireref04_Split.j1 k a X i i false) v := by
    intro X i b s e v hJ hv
    refine Ev.step (fun k => by simp only [escritoireref04_Split.j1]; rw [if_neg (by simp)]) (Ev.bind hJ ?_)
    subst hv
    by_cases h1 : e = 0
    · by_cases h2 : s.toList = a.toList
      · rw [if_pos h1, if_pos h2]; exact Ev.congr (f := fun _ => some _) (fun k => by rw [if_pos h1, if_pos h2]) (Ev.now _)
      · rw [if_pos h1, if_neg h2]; exact Ev.congr (f := fun _ => some _) (fun k => by rw [if_pos h1, if_neg h2]) (Ev.now _)
    · rw [if_neg h1]; exact Ev.congr (f := fun _ => some _) (fun k => by rw [if_neg h1]) (Ev.now _)
  have hJ0 : Ev (fun k => escritoireref04_Join.f k []) ((⟨#[47]⟩ : ByteArray), (0 : Int)) := Ev.now _
  by_cases h47 : L a = [47]
  · have hsz : a.size = 1 := by rw [← hL, h47]; rfl
    refine Ev.congr (f := fun k => escritoireref04_Split.l0 k a [] 1 1) (fun k => rfl) (Ev.step (fun k => by simp only [escritoireref04_Split.l0]; rw [if_pos (by omega), toL, h47, show (([47] : List UInt8) != [47]) = false from rfl]) ?_)
    refine fin [] 1 true _ _ _ hJ0 ?_
    rw [if_pos rfl, if_pos (by rw [toL, toL, h47])]
    unfold nsplitR
    rw [h47]; rfl
  · have hp : (a.toList != ([47] : List UInt8)) = true := by rw [toL]; simpa using h47
    by_cases h0 : L a = []
    · have hsz : a.size = 0 := by rw [← hL, h0]; rfl
      refine Ev.congr (f := fun k => escritoireref04_Split.l0 k a [] 1 1) (fun k => rfl) (Ev.step (fun k => by simp only [escritoireref04_Split.l0]; rw [if_neg (by omega)]) ?_)
      refine fin [] 1 true _ _ _ hJ0 ?_
      rw [if_pos rfl, if_neg (by rw [toL, toL, h0]; intro h; cases h)]
      unfold nsplitR
      rw [h0]; rfl
    · obtain ⟨c, r, hcr⟩ : ∃ c r, L a = c :: r := by cases h : L a with | nil => exact absurd h h0 | cons c r => exact ⟨c, r, rfl⟩
      have hsz : a.size = r.length + 1 := by rw [← hL, hcr]; rfl
      have hd : (L a).drop 1 = r := by rw [hcr]; rfl
      have hjl : (joinS (splitL r)).length = r.length + 1 := by rw [joinS_split]; rfl
      have hpl := joinS_len (splitL r)
      have hJ := refJoin_ev ((splitL r).map mk) (by rw [List.length_map]; omega) (by rw [map_L_mk]; omega) (by intro h; exact splitL_ne r (List.map_eq_nil_iff.1 h))
      rw [map_L_mk] at hJ
      refine Ev.congr (f := fun k => escritoireref04_Split.l0 k a [] ((1 : Nat) : Int) ((1 : Nat) : Int)) (fun k => rfl) ?_
      refine refSplit_loop a hp ha _ ((splitL r).map mk) ?_ (a.size - 1) 1 1 [] (by omega) (by omega) (by omega) (by simp) (by simp) (by rw [hd, List.nil_append])
      refine Ev.step (fun k => by simp only [escritoireref04_Split.l0]; rw [if_neg (by omega)]) ?_
      refine fin _ _ true _ _ _ hJ ?_
      unfold nsplitR joinR
      rw [hd, hcr, joinS_split]
      by_cases hc : c = 47
      · subst hc
        rw [if_pos (show (47 :: r).head? = some (47 : UInt8) from rfl)]
        have hr : r ≠ [] := fun h => h47 (by rw [hcr, h])
        rw [if_neg hr]
        cases hall : (splitL r).all rightL with
        | true =>
          rw [if_pos rfl]
          by_cases hlen : (47 :: r).length > 120
          · rw [if_pos hlen, if_pos hlen]; rfl
          · rw [if_neg hlen, if_neg hlen, if_pos rfl, if_pos rfl, if_pos (by rw [toL, toL, hcr]; rfl)]
        | false =>
          by_cases hlen : (47 :: r).length > 120
          · rw [if_pos hlen, if_pos hlen]; rfl
          · rw [if_neg hlen, if_neg hlen]; rfl
      · rw [if_neg (show ¬ (c :: r).head? = some (47 : UInt8) from fun h => hc (by simpa using h))]
        have hne : ∀ s : ByteArray, s = mk (47 :: r) → ¬ s.toList = a.toList := by
          rintro _ rfl h
          rw [toL, toL, hcr] at h
          exact hc (List.cons.inj h).1.symm
        cases hall : (splitL r).all rightL with
        | true =>
          rw [if_pos rfl]
          by_cases hlen : (47 :: r).length > 120
          · rw [if_pos hlen]; rfl
          · rw [if_neg hlen, if_pos rfl, if_neg (hne _ rfl)]
        | false => rfl
end Go.Proofs.YtmbpaienbmbhfaaDoor.Pure
