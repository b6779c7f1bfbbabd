/- Sets of files: versions, Merge, Fresh. -/
import Derived.Test.YtoakfmdfajpejaaSetA
import Derived.Test.YtoakfmdfajpejaaPrint1
namespace Go.Proofs.Ytoakfmdfajpejaa.Sets
open Go Go.Maps Go.RowKit Go.Proofs.Ytoakfmdfajpejaa.ML Go.Proofs.Ytoakfmdfajpejaa.Print Go.Proofs.YtoakfmdfajpejaaW.PrintWords Go.Proofs.YtoakfmdfajpejaaW.PrintLast Go.Proofs.YtoakfmdfajpejaaW.PrintMore
set_option linter.unusedVariables false
set_option linter.unusedSimpArgs false
def okn (k : Int) : Prop := (Lit.int .i64 k).wf = true
def okw (v : Int) : Prop := (Lit.int .u64 v).wf = true
theorem okn_iff {k : Int} : okn k ↔ -9223372036854775808 ≤ k ∧ k < 9223372036854775808 := by
  unfold okn
  simp [Lit.wf, IntKind.min, IntKind.max, IntKind.bits, IntKind.signed]
  omega
theorem okw_iff {k : Int} : okw k ↔ 0 ≤ k ∧ k < 18446744073709551616 := by
  unfold okw
  simp [Lit.wf, IntKind.min, IntKind.max, IntKind.bits, IntKind.signed]
  omega
/-- A file's version. -/
def atF (l : List Int) (k : Int) : Int := (escritoirelaw15_at.f l k).getD 0
theorem wrapu_eq (k : Int) : IntKind.u64.wrap k = k % 18446744073709551616 := by
  simp [IntKind.wrap, IntKind.signed, IntKind.bits]
theorem at_f (l : List Int) (hl : l.length ≤ 140737488355328) (k : Int) : escritoirelaw15_at.f l k = some (atF l k) := by
  unfold atF escritoirelaw15_at.f
  by_cases h0 : (l.length : Int) = 0
  · simp [h0]
  · rw [if_neg h0, wrapu_eq, wrapu_eq]
    have e1 : (l.length : Int) % 18446744073709551616 = l.length := Int.emod_eq_of_lt (by omega) (by omega)
    rw [e1, if_neg h0]
    have e2 : Int.tmod (k % 18446744073709551616) (l.length : Int) = (k % 18446744073709551616) % (l.length : Int) := Int.tmod_eq_emod_of_nonneg (by omega)
    rw [e2]
    have h1 : 0 ≤ (k % 18446744073709551616) % (l.length : Int) := Int.emod_nonneg _ h0
    have h2 : (k % 18446744073709551616) % (l.length : Int) < l.length := Int.emod_lt_of_pos _ (by omega)
    have e3 : wrap64 ((k % 18446744073709551616) % (l.length : Int)) = (k % 18446744073709551616) % (l.length : Int) := by
      generalize (k % 18446744073709551616) % (l.length : Int) = y at h1 h2
      unfold wrap64; omega
    rw [e3, if_pos h1, if_pos h2]
    rfl
theorem rd_ok {l : List Int} (hl : ∀ x ∈ l, okw x) (i : Int) : okw (rd l i) := by
  unfold rd
  rw [List.getD_eq_getElem?_getD]
  cases h : l[i.toNat]? with
  | none => exact okw_iff.2 (by simp)
  | some v => exact hl v (List.mem_of_getElem? h)
theorem atF_ok {l : List Int} (hl : ∀ x ∈ l, okw x) (hn : l.length ≤ 140737488355328) (k : Int) : okw (atF l k) := by
  have h := at_f l hn k
  unfold escritoirelaw15_at.f at h
  split at h
  · obtain e := Option.some.inj h; rw [← e]; exact okw_iff.2 (by omega)
  · split at h
    · cases h
    · split at h
      · split at h
        · obtain e := Option.some.inj h; rw [← e]; exact rd_ok hl _
        · cases h
      · cases h
/-- Versions that a function value looks at. -/
structure Tab (w : World) (A : Option Addr) (c : Nat) (l : List Int) : Prop where
  row : Kd.C (Kd.int .u64) w A l.length l
  cap : l.length ≤ c
  len : l.length ≤ 140737488355328
  ok : ∀ x ∈ l, okw x
theorem Tab.below {w w' : World} {A : Option Addr} {c : Nat} {l : List Int} (h : Tab w A c l) (hb : Below w.heap.size w w') : Tab w' A c l := ⟨Kd.C_below h.row hb, h.cap, h.len, h.ok⟩
theorem at_calls {w : World} {A : Option Addr} {c : Nat} {l : List Int} (h : Tab w A c l) (k : Int) : Calls Try.prog 10 #[.slice A l.length c, .int .i64 k] w fun e w' => e = .returned (.int .u64 (atF l k)) ∧ Below w.heap.size w w' :=
  (escritoirelaw15_at.calls A c l k (atF l k) w h.row h.cap (at_f l h.len k)).mono fun e w' h => ⟨h.1, h.2.below⟩
/-- The function value. -/
def nowV (A : Option Addr) (c : Nat) (l : List Int) : Value := .func (.func 9) #[.agg #[.slice A l.length c]] #[]
set_option maxHeartbeats 1000000 in
theorem now_calls {w : World} {A : Option Addr} {c : Nat} {l : List Int} (h : Tab w A c l) (k : Int) : Calls Try.prog 9 #[.agg #[.slice A l.length c], .int .i64 k] w fun e w' => e = .returned (.int .u64 (atF l k)) ∧ Below w.heap.size w w' := by
  have H := Aside0.mk h
  have hu := Try.underlying30
  clear h
  go_enter Try.func9, Try.ntmps9
  go_wp2_with (first
    | ((with_reducible refine gate_dst (N := 2) rfl ?_); refine box_event ?hg (N := 2) ?hd (cs := #[.slice A l.length c]) (t := 30) ?hr ?_; (case hd => rfl); (case hg => rfl); (case hr => first | (go_simp; done) | (go_simp; rfl)); intro g hg w1 hbox hb; have H1 := Aside0.mk (H.out.below hb); have B1 := Aside0.mk hb; have x0 := cell_of hbox (o := 0) rfl; clear hb hbox hg)
    | (go_at_call 10; refine (at_calls H1.out k).mono ?_; rintro e w2 ⟨rfl, hb⟩; have B2 := Aside0.mk (B1.out.trans (hb.mono B1.out.size)); clear hb))
  go_ret
  exact ⟨rfl, B2.out⟩
/-- What is merged. -/
def mergeL (f : Int → Int) (m : List (Int × Int)) (l : List Int) : List (Int × Int) := l.foldl (fun m k => if (get m k).isSome = true then m else put m k (f k)) m
theorem mergeL_snoc (f : Int → Int) (m : List (Int × Int)) (l : List Int) (k : Int) : mergeL f m (l ++ [k]) = if (get (mergeL f m l) k).isSome = true then mergeL f m l else put (mergeL f m l) k (f k) := by
  unfold mergeL
  rw [List.foldl_append]
  rfl
theorem mergeL_len (f : Int → Int) (l : List Int) : ∀ m : List (Int × Int), (mergeL f m l).length ≤ m.length + l.length := by
  induction l with
  | nil => intro m; exact Nat.le_refl _
  | cons k r ih =>
    intro m
    show (mergeL f (if (get m k).isSome = true then m else put m k (f k)) r).length ≤ _
    have h1 := ih (if (get m k).isSome = true then m else put m k (f k))
    have h2 := length_put m k (f k)
    split at h1
    · rename_i h; rw [if_pos h]; simp at *; omega
    · rename_i h; rw [if_neg h]; simp at *; omega
theorem mergeL_sorted (f : Int → Int) (l : List Int) : ∀ m : List (Int × Int), Sorted m → Sorted (mergeL f m l) := by
  induction l with
  | nil => intro m h; exact h
  | cons k r ih =>
    intro m h
    show Sorted (mergeL f (if (get m k).isSome = true then m else put m k (f k)) r)
    refine ih _ ?_
    split
    · exact h
    · exact sorted_put h _ _
theorem mergeL_get (f : Int → Int) (l : List Int) (j : Int) : ∀ m : List (Int × Int), get (mergeL f m l) j = if (get m j).isSome = true then get m j else if j ∈ l then some (f j) else none := by
  induction l with
  | nil => intro m; cases h : get m j <;> simp [mergeL, h]
  | cons k r ih =>
    intro m
    show get (mergeL f (if (get m k).isSome = true then m else put m k (f k)) r) j = _
    rw [ih]
    by_cases hk : (get m k).isSome = true
    · rw [if_pos hk]
      by_cases hj : (get m j).isSome = true
      · rw [if_pos hj, if_pos hj]
      · rw [if_neg hj, if_neg hj]
        have : j ≠ k := by rintro rfl; exact hj hk
        simp [this]
    · rw [if_neg hk, get_put]
      by_cases hjk : j = k
      · subst hjk; simp [hk]
      · simp [hjk]
theorem elem_at {w : World} {A : Option Addr} {n : Nat} {l : List Int} (h : Kd.C (Kd.int .i64) w A n l) (j : Nat) (hj : j < l.length) : ∃ ad k, A = some ad ∧ l[j]? = some k ∧ w.cell? (ad.add j) = some (.int .i64 k) := by
  obtain ⟨ad, hA, hx⟩ := Kd.at_int h (j : Int) (by omega) (by have := h.1; omega)
  obtain ⟨k, hk⟩ : ∃ k, l[j]? = some k := ⟨_, List.getElem?_eq_getElem hj⟩
  have hkd : rd l (j : Int) = k := by unfold rd; rw [Int.toNat_natCast, List.getD_eq_getElem?_getD, hk]; rfl
  rw [hkd] at hx
  exact ⟨ad, k, hA, hk, by simpa using hx⟩
theorem take_snoc {l : List Int} {j : Nat} {k : Int} (h : l[j]? = some k) : l.take (j + 1) = l.take j ++ [k] := by rw [List.take_add_one, h]; rfl
set_option maxHeartbeats 2000000 in
theorem Merge_calls {w : World} {v : Value} {m : List (Int × Int)} (h : MvU w v m) (hml : m.length ≤ 1000) {A : Option Addr} {c : Nat} {l : List Int} (hr : Kd.C (Kd.int .i64) w A l.length l) (hl : l.length ≤ 1000) (hi : ∀ k ∈ l, okn k)
    {B : Option Addr} {d : Nat} {t : List Int} (ht : Tab w B d t) :
    Calls Try.prog 8 #[v, .slice A l.length c, nowV B d t] w fun e w' => ∃ b, e = .returned (.map (some b)) ∧ w.heap.size ≤ b ∧ IsM ekU 3 w' b (mergeL (atF t) m l) ∧ Below w.heap.size w w' := by
  have HV := Aside0.mk h
  have HML := Aside0.mk hml
  have HR := Aside0.mk hr
  have HL := Aside0.mk hl
  have HI := Aside0.mk hi
  have HT := Aside0.mk ht
  clear h hml hr hi ht
  unfold nowV
  go_enter Try.func8, Try.ntmps8
  go_wp2_with (go_at_call 24; refine (copiedU_calls HV.out (by have := HML.out; omega)).mono ?_; rintro e w1 ⟨b, rfl, hb0, hm, hb⟩; have M1 := Aside0.mk hm; have B1 := Aside0.mk hb; have BB := Aside0.mk hb0; clear hm hb hb0)
  go_loopw [16] (fun x wr => ∃ j : Nat, j ≤ l.length ∧ x = .int .i64 (j : Int) ∧ IsM ekU 3 wr b (mergeL (atF t) m (l.take j)) ∧ Below w.heap.size w wr) (fun x _ => l.length - (intOf x).toNat)
  case atStart => exact ⟨0, by omega, rfl, M1.out, B1.out⟩
  case round =>
    obtain ⟨j, hj, rfl, hm, hb⟩ := hrel
    have HM := Aside0.mk hm
    have HB := Aside0.mk hb
    clear hm hb
    by_cases hlt : j < l.length
    · obtain ⟨ad, k, hA, hk, hx⟩ := elem_at (Kd.C_below HR.out HB.out) j hlt
      have HK := Aside0.mk (HI.out k (List.mem_of_getElem? hk))
      have HN := Aside0.mk (take_snoc hk)
      subst hA
      clear hk
      by_cases hin : (get (mergeL (atF t) m (l.take j)) k).isSome = true
      · go_wp2_with (at_lookup; refine wp_look_ok (x := ekU) mtSeen rfl _ _ rfl rfl HM.out k rfl HK.out ?_)
        go_roundw
        case rel => exact ⟨j + 1, by omega, by go_num, by rw [HN.out, mergeL_snoc, if_pos hin]; exact HM.out, HB.out⟩
        case measure => simp [intOf]; omega
      · have hin' : (get (mergeL (atF t) m (l.take j)) k).isSome = false := by simpa using hin
        go_wp2_with (first
          | (at_lookup; refine wp_look_ok (x := ekU) mtSeen rfl _ _ rfl rfl HM.out k rfl HK.out ?_)
          | (go_at_call 9; refine (now_calls (HT.out.below (HB.out)) k).mono ?_; rintro e w2 ⟨rfl, hb⟩; have M2 := Aside0.mk (IsMbelow HM.out HM.out.lt hb); have B2 := Aside0.mk (HB.out.trans (hb.mono HB.out.size)); clear hb)
          | (at_mapUpdate; refine wp_put (x := ekU) mtSeen rfl _ _ _ rfl rfl M2.out (by have := mergeL_len (atF t) (l.take j) m; rw [List.length_take] at this; have := HML.out; have := HL.out; omega) k (atF t k) rfl rfl HK.out (atF_ok HT.out.ok HT.out.len k) ?_; intro w3 hm2 ht2; have M3 := Aside0.mk hm2; have T3 := Aside0.mk (turned_of ht2); clear hm2 ht2))
        go_roundw
        case rel => exact ⟨j + 1, by omega, by go_num, by rw [HN.out, mergeL_snoc, if_neg hin]; exact M3.out, B2.out.grown T3.out B2.out.size (fun x hx => by cases hx; exact BB.out)⟩
        case measure => simp [intOf]; omega
    · have hj' : j = l.length := by omega
      have hm := HM.out
      rw [hj', List.take_length] at hm
      have HM' := Aside0.mk hm
      clear hm
      go_wp2
      go_ret
      exact ⟨b, rfl, BB.out, HM'.out, HB.out⟩
set_option maxHeartbeats 2000000 in
theorem Fresh_calls {w : World} {s : Nat} {m : List (Int × Int)} (hs : IsM ekU 3 w s m) {B : Option Addr} {d : Nat} {t : List Int} (ht : Tab w B d t) :
    Calls Try.prog 11 #[.map (some s), nowV B d t] w fun e w' => e = .returned (.bool (m.all fun y => decide (atF t y.1 = y.2))) ∧ Below w.heap.size w w' := by
  have HS := Aside0.mk hs
  have SO := Aside0.mk (hs.sorted mtSeen)
  have SL := Aside0.mk hs.lt
  have HT := Aside0.mk ht
  clear hs ht
  unfold nowV
  go_enter Try.func11, Try.ntmps11
  go_wp2_with (at_range; refine wpList_range_own _ rfl _ 26 rfl 3 31 mtSeen.keyed mtSeen.ht _ s _ _ rfl HS.out ?_; intro w2 hrg0 hg0 hs0)
  obtain ⟨r, hrr⟩ : ∃ r, w.heap.size = r := ⟨_, rfl⟩
  rw [hrr] at hrg0 ⊢
  go_frame
  have RG := Aside0.mk hrg0
  have RR := Aside0.mk hrr
  have B0 := Aside0.mk ((Below.refl w.heap.size w).grown hg0 (Nat.le_refl _) (fun x hx => by cases hx))
  clear hrg0 hg0 hs0 hrr
  go_loopw [] (fun wr => ∃ (left : Lit → Bool) (cnt : Nat), RangeU wr s r m.length m left cnt ∧ (∀ y ∈ m, left (.int .i64 y.1) = false → atF t y.1 = y.2) ∧ Below w.heap.size w wr) (fun wr => wr.rangeLeft s r)
  case atStart =>
    refine ⟨_, _, RG.out, fun y hy hl => ?_, B0.out⟩
    have h1 := D_has ekU m y.1
    rw [hl, get_of_mem SO.out (k := y.1) (v := y.2) hy] at h1
    cases h1
  case round =>
    obtain ⟨left, cnt, hrg, hall, hb⟩ := hrel
    have HG := Aside0.mk hrg
    have HA := Aside0.mk hall
    have HB := Aside0.mk hb
    clear hrg hall hb
    go_wp2_with (first
      | (at_next; refine wpList_next_ranges_ii _ rfl _ rfl 3 31 .i64 .u64 mtSeen.keyed mtSeen.hk Try.underlying31 s r _ _ _ _ rfl HG.out ?_ ?_))
    · intro hc0 hl0
      have HE := Aside0.mk hl0
      clear hc0 hl0
      go_wp2
      go_ret
      refine ⟨?_, HB.out⟩
      have : (m.all fun y => decide (atF t y.1 = y.2)) = true := List.all_eq_true.2 fun y hy => by simpa using HA.out y hy (HE.out _)
      rw [this]
      rfl
    · intro x c w2 cnt2 hwx hwc hlx hat hrg2 hlt hg2 hs2 hen
      have hget := range_getU hat
      have hb2 : Below w.heap.size w w2 := HB.out.grown hg2 HB.out.size (fun x hx => by cases hx; rw [RR.out]; exact Nat.le_refl _)
      have B2 := Aside0.mk hb2
      have R2 := Aside0.mk hrg2
      have LT := Aside0.mk hlt
      have GE := Aside0.mk hget
      clear hget hb2 hlt hlx hat hrg2 hg2 hs2 hwx hwc
      by_cases he : atF t x = c
      · have he' : (atF t x != c) = false := by simp [he]
        go_wp2_with (go_at_call 9; refine (now_calls (HT.out.below B2.out) x).mono ?_; rintro e w3 ⟨rfl, hb⟩; have R3 := Aside0.mk (World.ranges.kept R2.out (grown_of_below hb) (by simp) (by simp)); have B3 := Aside0.mk (B2.out.trans (hb.mono B2.out.size)); clear hb)
        go_roundw
        case rel =>
          refine ⟨_, cnt2, R3.out, fun y hy hl => ?_, B3.out⟩
          by_cases hyx : y.1 = x
          · have := get_of_mem SO.out (k := y.1) (v := y.2) hy
            rw [hyx, GE.out] at this
            rw [hyx, he]
            exact Option.some.inj this
          · refine HA.out y hy ?_
            rw [Bool.and_eq_false_iff] at hl
            rcases hl with h | h
            · exact h
            · simp [Lit.sameKey, hyx] at h
        case measure => rw [R3.out.left_eq, HG.out.left_eq]; exact LT.out
      · have he' : (atF t x != c) = true := by simp [he]
        go_wp2_with (go_at_call 9; refine (now_calls (HT.out.below B2.out) x).mono ?_; rintro e w3 ⟨rfl, hb⟩; have B3 := Aside0.mk (B2.out.trans (hb.mono B2.out.size)); clear hb)
        go_ret
        refine ⟨?_, B3.out⟩
        have : (m.all fun y => decide (atF t y.1 = y.2)) = false := by
          rw [Bool.eq_false_iff]
          intro h
          have := List.all_eq_true.1 h _ (get_some_mem GE.out)
          simp at this
          exact he this
        rw [this]
        rfl
set_option maxHeartbeats 1000000 in
theorem Fresh_nil {w : World} {v : Value} : Calls Try.prog 11 #[.map none, v] w fun e w' => e = .returned (.bool true) ∧ Below w.heap.size w w' := by
  go_enter Try.func11, Try.ntmps11
  go_wp2_with (at_range; refine range_nil (k := 3) (e := 31) rfl _ 26 rfl mtSeen.ht rfl ?_)
  have HB := Aside0.mk ((Below.refl w.heap.size w).alloc (Nat.le_refl _) (.mapIter none 0 #[] 0))
  have HI := Aside0.mk (show (w.alloc (.mapIter none 0 #[] 0)).heap[w.heap.size]? = some (.mapIter none 0 #[] 0) from heap_alloc_new w _)
  obtain ⟨r, hrr⟩ : ∃ r, w.heap.size = r := ⟨_, rfl⟩
  rw [hrr] at HB HI ⊢
  have HR := Aside0.mk hrr
  clear hrr
  generalize w.alloc (.mapIter none 0 #[] 0) = w1 at HB HI ⊢
  go_frame
  go_loopw [] (fun wr => wr = w1) (fun wr => 0)
  case atStart => rfl
  case round =>
    subst hrel
    go_wp2_with (at_next; refine next_nil (r := r) rfl _ rfl rfl HI.out ?_)
    go_ret
    exact ⟨rfl, HR.out ▸ HB.out⟩
end Go.Proofs.Ytoakfmdfajpejaa.Sets
