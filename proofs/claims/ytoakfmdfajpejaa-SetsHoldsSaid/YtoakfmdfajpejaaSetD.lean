/- Sets of files: Take, Drop, Clash, and the laws' word. -/
import Derived.Test.YtoakfmdfajpejaaSetC
namespace Go.Proofs.Ytoakfmdfajpejaa.Sets
open Go Go.Maps Go.RowKit Go.Proofs.Ytoakfmdfajpejaa.ML Go.Proofs.Ytoakfmdfajpejaa.Print Go.Proofs.YtoakfmdfajpejaaW.PrintWords Go.Proofs.YtoakfmdfajpejaaW.PrintLast Go.Proofs.YtoakfmdfajpejaaW.PrintMore
set_option linter.unusedVariables false
set_option linter.unusedSimpArgs false
def putsL (me : Int) (m : List (Int × Int)) (l : List Int) : List (Int × Int) := l.foldl (fun m k => put m k me) m
theorem putsL_snoc (me : Int) (m : List (Int × Int)) (l : List Int) (k : Int) : putsL me m (l ++ [k]) = put (putsL me m l) k me := by
  unfold putsL
  rw [List.foldl_append]
  rfl
theorem putsL_len (me : Int) (l : List Int) : ∀ m : List (Int × Int), (putsL me m l).length ≤ m.length + l.length := by
  induction l with
  | nil => intro m; exact Nat.le_refl _
  | cons k r ih =>
    intro m
    have h1 := ih (put m k me)
    have h2 := length_put m k me
    show (putsL me (put m k me) r).length ≤ _
    simp
    omega
theorem putsL_sorted (me : Int) (l : List Int) : ∀ m : List (Int × Int), Sorted m → Sorted (putsL me m l) := by
  induction l with
  | nil => intro m h; exact h
  | cons k r ih => intro m h; exact ih _ (sorted_put h _ _)
theorem putsL_get (me : Int) (l : List Int) (j : Int) : ∀ m : List (Int × Int), get (putsL me m l) j = if j ∈ l then some me else get m j := by
  induction l with
  | nil => intro m; simp [putsL]
  | cons k r ih =>
    intro m
    show get (putsL me (put m k me) r) j = _
    rw [ih, get_put]
    by_cases h1 : j ∈ r
    · simp [h1]
    · by_cases h2 : j = k <;> simp [h1, h2]
/-- What is held behind a take. -/
def takeL (m : List (Int × Int)) (me : Int) (l : List Int) : List (Int × Int) := if freeL m me l = true then putsL me m l else m
theorem takeL_len (m : List (Int × Int)) (me : Int) (l : List Int) : (takeL m me l).length ≤ m.length + l.length := by
  unfold takeL
  split
  · exact putsL_len me l m
  · omega
theorem takeL_sorted {m : List (Int × Int)} (h : Sorted m) (me : Int) (l : List Int) : Sorted (takeL m me l) := by
  unfold takeL
  split
  · exact putsL_sorted me l m h
  · exact h
set_option maxHeartbeats 2000000 in
theorem Take_calls {w : World} {v : Value} {m : List (Int × Int)} (h : MvI w v m) (hml : m.length ≤ 1000) {A : Option Addr} {c : Nat} {l : List Int} (hr : Kd.C (Kd.int .i64) w A l.length l) (hl : l.length ≤ 1000) (hi : ∀ k ∈ l, okn k) (me : Int) (hme : okn me) :
    Calls Try.prog 16 #[v, .slice A l.length c, .int .i64 me] w fun e w' => ∃ b, e = .returned (.tuple #[.map (some b), .bool (freeL m me l)]) ∧ w.heap.size ≤ b ∧ IsM ekI 3 w' b (takeL m me l) ∧ Below w.heap.size w w' := by
  have HV := Aside0.mk h
  have HML := Aside0.mk hml
  have HR := Aside0.mk hr
  have HI := Aside0.mk hi
  have HME := Aside0.mk hme
  clear h hml hr hi hme
  unfold takeL
  cases hfr : freeL m me l with
  | false =>
    go_enter Try.func16, Try.ntmps16
    go_wp2_with (first
      | (go_at_call 25; refine (copiedI_calls HV.out (by have := HML.out; omega)).mono ?_; rintro e w1 ⟨b, rfl, hb0, hm, hb⟩; have M1 := Aside0.mk hm; have B1 := Aside0.mk hb; have BB := Aside0.mk hb0; clear hm hb hb0)
      | (go_at_call 17; refine (Free_calls (HV.out.below B1.out) (Kd.C_below HR.out B1.out) hl HI.out me).mono ?_; rintro e w2 ⟨rfl, hb⟩; rw [hfr]; have M2 := Aside0.mk (IsMbelow M1.out M1.out.lt hb); have B2 := Aside0.mk (B1.out.trans (hb.mono B1.out.size)); clear hb))
    go_returns
    exact ⟨b, rfl, BB.out, M2.out, B2.out⟩
  | true =>
    go_enter Try.func16, Try.ntmps16
    go_wp2_with (first
      | (go_at_call 25; refine (copiedI_calls HV.out (by have := HML.out; omega)).mono ?_; rintro e w1 ⟨b, rfl, hb0, hm, hb⟩; have M1 := Aside0.mk hm; have B1 := Aside0.mk hb; have BB := Aside0.mk hb0; clear hm hb hb0)
      | (go_at_call 17; refine (Free_calls (HV.out.below B1.out) (Kd.C_below HR.out B1.out) hl HI.out me).mono ?_; rintro e w2 ⟨rfl, hb⟩; rw [hfr]; have M2 := Aside0.mk (IsMbelow M1.out M1.out.lt hb); have B2 := Aside0.mk (B1.out.trans (hb.mono B1.out.size)); clear hb))
    go_loopw [21] (fun x wr => ∃ j : Nat, j ≤ l.length ∧ x = .int .i64 (j : Int) ∧ IsM ekI 3 wr b (putsL me m (l.take j)) ∧ Below w.heap.size w wr) (fun x _ => l.length - (intOf x).toNat)
    case atStart => exact ⟨0, by omega, rfl, M2.out, B2.out⟩
    case round =>
      obtain ⟨j, hj, rfl, hm, hb⟩ := hrel
      have HM := Aside0.mk hm
      have HB := Aside0.mk hb
      clear hm hb
      by_cases hlt : j < l.length
      · obtain ⟨ad, k, hA, hk, hx⟩ := elem_at (Kd.C_below HR.out HB.out) j hlt
        have HK := Aside0.mk (HI.out k (List.mem_of_getElem? hk))
        have HN := Aside0.mk (take_snoc hk)
        subst hA
        clear hk
        go_wp2_with (at_mapUpdate; refine wp_put (x := ekI) mtHolds rfl _ _ _ rfl rfl HM.out (by have := putsL_len me (l.take j) m; rw [List.length_take] at this; have := HML.out; omega) k me rfl rfl HK.out HME.out ?_; intro w3 hm2 ht2; have M3 := Aside0.mk hm2; have T3 := Aside0.mk (turned_of ht2); clear hm2 ht2)
        go_roundw
        case rel => exact ⟨j + 1, by omega, by go_num, by rw [HN.out, putsL_snoc]; exact M3.out, HB.out.grown T3.out HB.out.size (fun x hx => by cases hx; exact BB.out)⟩
        case measure => simp [intOf]; omega
      · have hj' : j = l.length := by omega
        have hm := HM.out
        rw [hj', List.take_length] at hm
        have HM' := Aside0.mk hm
        clear hm
        go_wp2
        go_returns
        exact ⟨b, rfl, BB.out, HM'.out, HB.out⟩
set_option maxHeartbeats 1000000 in
theorem DropF_calls {w : World} (me : Int) {b2 : Nat} (h2 : w.cell? ⟨b2, 0, none⟩ = some (.int .i64 me)) (x c : Int) :
    Calls Try.prog 29 #[.int .i64 x, .int .i64 c, .pointer (some ⟨b2, 0, none⟩)] w fun e w' => e = .returned (.bool (c == me)) ∧ Below w.heap.size w w' := by
  go_enter Try.func29, Try.ntmps29
  go_wp2
  go_ret
  exact ⟨rfl, Below.refl _ _⟩
/-- What is left. -/
def dropL (m : List (Int × Int)) (me : Int) : List (Int × Int) := m.filter fun y => !(y.2 == me)
def dropTo (m : List (Int × Int)) (me : Int) (left : Lit → Bool) : List (Int × Int) := m.filter fun y => left (.int .i64 y.1) || !(y.2 == me)
theorem get_dropTo {m : List (Int × Int)} (hs : Sorted m) (me : Int) (left : Lit → Bool) (k : Int) : get (dropTo m me left) k = match get m k with | some v => if (left (.int .i64 k) || !(v == me)) = true then some v else none | none => none := by
  unfold dropTo
  induction m with
  | nil => rfl
  | cons y r ih =>
    obtain ⟨h1, h2⟩ := List.pairwise_cons.1 hs
    rw [List.filter_cons, get_cons]
    by_cases hy : y.1 = k
    · subst hy
      by_cases hp : (left (.int .i64 y.1) || !(y.2 == me)) = true
      · rw [if_pos hp, get_cons]; simp [hp]
      · rw [if_neg hp, get_none_of]
        · simp [hp]
        · intro z hz
          have := h1 z (List.mem_filter.1 hz).1
          omega
    · split
      · rw [get_cons, if_neg hy]; exact ih h2
      · exact ih h2
theorem dropTo_start {m : List (Int × Int)} (me : Int) {left : Lit → Bool} (hs : Sorted m) (h : ∀ i, left (.int .i64 i) = (get m i).isSome) : dropTo m me left = m :=
  List.filter_eq_self.2 fun y hy => by simp [h, get_of_mem hs (k := y.1) (v := y.2) hy]
theorem dropTo_end {m : List (Int × Int)} (me : Int) {left : Lit → Bool} (h : ∀ k, left k = false) : dropTo m me left = dropL m me := by
  unfold dropTo dropL
  congr 1
  funext y
  simp [h]
theorem dropTo_sorted {m : List (Int × Int)} (hs : Sorted m) (me : Int) (left : Lit → Bool) : Sorted (dropTo m me left) := List.Pairwise.filter _ hs
theorem dropTo_get {m : List (Int × Int)} (hs : Sorted m) {me : Int} {left : Lit → Bool} {x c : Int} (h : get (dropTo m me left) x = some c) : get m x = some c := by
  rw [get_dropTo hs] at h
  cases hg : get m x with
  | none => rw [hg] at h; cases h
  | some v =>
    rw [hg] at h
    simp only at h
    split at h
    · exact h
    · cases h
theorem dropTo_del {m : List (Int × Int)} (hs : Sorted m) {left : Lit → Bool} {x me : Int} (hx : get m x = some me) :
    del (dropTo m me left) x = dropTo m me (fun z => left z && !z.sameKey (.int .i64 x)) := by
  refine ext (sorted_del (dropTo_sorted hs _ _) _) (dropTo_sorted hs _ _) fun k => ?_
  rw [get_del, get_dropTo hs, get_dropTo hs]
  by_cases h : k = x
  · subst h; simp [hx, Lit.sameKey, Bool.beq_eq_decide_eq]
  · simp [h, Lit.sameKey, Bool.beq_eq_decide_eq]
theorem dropTo_keep {m : List (Int × Int)} (hs : Sorted m) {left : Lit → Bool} {x c me : Int} (hx : get m x = some c) (hc : (c == me) = false) :
    dropTo m me left = dropTo m me (fun z => left z && !z.sameKey (.int .i64 x)) := by
  refine ext (dropTo_sorted hs _ _) (dropTo_sorted hs _ _) fun k => ?_
  rw [get_dropTo hs, get_dropTo hs]
  by_cases h : k = x
  · subst h; simp [hx, hc]
  · simp [h, Lit.sameKey, Bool.beq_eq_decide_eq]
abbrev RangeD (w : World) (b r n : Nat) (m : List (Int × Int)) (left : Lit → Bool) (cnt : Nat) : Prop := w.ranges Try.prog 3 (plainElem (H := Unit) Try.prog 3) b r n (ML.D ekI m) left cnt
set_option maxHeartbeats 2000000 in
theorem DeleteFunc_calls {w : World} {b : Nat} {m : List (Int × Int)} (hb : IsM ekI 3 w b m) (me : Int) {b2 : Nat} (h2 : w.heap[b2]? = some (.cells #[.int .i64 me] 3 (0, 0))) :
    Calls Try.prog 28 #[.map (some b), .func (.func 29) #[] #[.pointer (some ⟨b2, 0, none⟩)]] w fun e w' => e = .returned (.tuple #[]) ∧ IsM ekI 3 w' b (dropL m me) ∧ Turn [b] w w' := by
  have HS := Aside0.mk hb
  have SO := Aside0.mk (hb.sorted mtHolds)
  have BL := Aside0.mk hb.lt
  have H2 := Aside0.mk h2
  have BN := Aside0.mk (show b2 ≠ b from hb.ne_cells h2)
  have B2L := Aside0.mk (blk_lt h2)
  clear hb h2
  go_enter Try.func28, Try.ntmps28
  go_wp2_with (at_range; refine wpList_range_own _ rfl _ 42 rfl 3 3 mtHolds.keyed mtHolds.ht _ b _ _ rfl HS.out ?_; intro w2 hrg0 hg0 hs0)
  obtain ⟨r, hrr⟩ : ∃ r, w.heap.size = r := ⟨_, rfl⟩
  rw [hrr] at hrg0 ⊢
  go_frame
  have RG := Aside0.mk hrg0
  have G0 := Aside0.mk hg0
  have RR := Aside0.mk hrr
  clear hrg0 hg0 hs0 hrr
  go_loopw [] (fun wr => ∃ (left : Lit → Bool) (cnt : Nat), RangeD wr b r m.length (dropTo m me left) left cnt ∧ Turn [b] w wr) (fun wr => wr.rangeLeft b r)
  case atStart =>
    refine ⟨Go.Maps.has (ML.D ekI m), Go.Maps.size (ML.D ekI m), ?_, Turn.of_grown0 G0.out _⟩
    rw [dropTo_start me SO.out (fun i => D_has ekI m i)]
    exact RG.out
  case round =>
    obtain ⟨left, cnt, hrg, ht⟩ := hrel
    have HG := Aside0.mk hrg
    have HT := Aside0.mk ht
    clear hrg ht
    go_wp2_with (first
      | (at_next; refine wpList_next_ranges_ii _ rfl _ rfl 3 3 .i64 .i64 mtHolds.keyed mtHolds.hk Try.underlying3 b r _ _ _ _ rfl HG.out ?_ ?_))
    · intro hc0 hl0
      have HE := Aside0.mk hl0
      clear hc0 hl0
      go_wp2
      go_returns
      refine ⟨rfl, ?_, HT.out⟩
      have hd := dropTo_end (m := m) me HE.out
      rw [← hd]
      exact IsM.of HG.out.owns
    · intro x c w2 cnt2 hwx hwc hlx hat hrg2 hlt hg2 hs2 hen
      have hget := range_getI hat
      have t2 : Turn [b] w w2 := HT.out.step hg2 (by rw [RR.out]; omega)
      have h2 : w2.heap[b2]? = some (.cells #[.int .i64 me] 3 (0, 0)) := (t2.block b2 B2L.out (by have := BN.out; simp; omega)).trans H2.out
      have WX := Aside0.mk hwx
      have T2 := Aside0.mk t2
      have C2 := Aside0.mk (cell_of h2 (o := 0) rfl)
      have R2 := Aside0.mk hrg2
      have LT := Aside0.mk hlt
      have GM := Aside0.mk (dropTo_get SO.out hget)
      clear hget t2 h2 hlt hlx hat hrg2 hg2 hs2 hwx hwc
      cases hcm : (c == me) with
      | false =>
        go_wp2_with (go_at_call 29; refine (DropF_calls me C2.out x c).mono ?_; rintro e w3 ⟨rfl, hb⟩; rw [hcm]; have R3 := Aside0.mk (World.ranges.kept R2.out (grown_of_below hb) (by simp) (by simp)); have T3 := Aside0.mk (T2.out.trans (Turn.of_below hb [b])); clear hb)
        go_roundw
        case rel =>
          refine ⟨fun z => left z && !z.sameKey (.int .i64 x), cnt2, ?_, T3.out⟩
          have hk := dropTo_keep SO.out (left := left) GM.out hcm
          have hr := R3.out
          rw [hk] at hr
          exact hr
        case measure => rw [R3.out.left_eq, HG.out.left_eq]; exact LT.out
      | true =>
        have hcm' : c = me := by simpa using hcm
        subst hcm'
        go_wp2_with (first
          | (go_at_call 29; refine (DropF_calls c C2.out x c).mono ?_; rintro e w3 ⟨rfl, hb⟩; rw [hcm]; have R3 := Aside0.mk (World.ranges.kept R2.out (grown_of_below hb) (by simp) (by simp)); have T3 := Aside0.mk (T2.out.trans (Turn.of_below hb [b])); clear hb)
          | (at_delete; refine wpList_delete_ranges _ rfl _ _ 42 3 rfl 3 mtHolds.keyed mtHolds.ht _ b r _ _ _ _ rfl R3.out (.int .i64 x) (.int .i64 x) rfl (keyOf_int_mk mtHolds.hk WX.out) ?_; intro w4 cnt4 hrg4 hle4 ht4; rw [strike_twice, D_del, dropTo_del SO.out GM.out] at hrg4; have R4 := Aside0.mk hrg4; have T4 := Aside0.mk (T3.out.trans (Turn.of_grown (turned_of ht4))); have LE := Aside0.mk hle4; clear hrg4 hle4 ht4))
        go_frame
        go_roundw
        case rel => exact ⟨_, cnt4, R4.out, T4.out⟩
        case measure => rw [R4.out.left_eq, HG.out.left_eq]; have := LT.out; have := LE.out; omega
set_option maxHeartbeats 1000000 in
theorem Drop_calls {w : World} {v : Value} {m : List (Int × Int)} (h : MvI w v m) (hml : m.length ≤ 1000) (me : Int) :
    Calls Try.prog 19 #[v, .int .i64 me] w fun e w' => ∃ b, e = .returned (.map (some b)) ∧ w.heap.size ≤ b ∧ IsM ekI 3 w' b (dropL m me) ∧ Below w.heap.size w w' := by
  have HV := Aside0.mk h
  have HML := Aside0.mk hml
  have hu3 := Try.underlying3
  clear h hml
  go_enter Try.func19, Try.ntmps19
  go_wp2_with (first
    | ((with_reducible refine gate_dst (N := 3) rfl ?_); refine box_event ?hg (N := 3) ?hd (cs := #[.int .i64 me]) (t := 3) ?hr ?_; (case hd => rfl); (case hg => rfl); (case hr => first | (go_simp; done) | (go_simp; rfl)); intro b2 hg2 w1 hbox hb; have X1 := Aside0.mk hbox; have B1 := Aside0.mk hb; clear hb hbox hg2)
    | (go_at_call 25; refine (copiedI_calls (HV.out.below B1.out) (by have := HML.out; omega)).mono ?_; rintro e w2 ⟨b, rfl, hb0, hm, hb⟩; have M2 := Aside0.mk hm; have X2 := Aside0.mk (blk_below X1.out hb); have B2 := Aside0.mk (B1.out.trans (hb.mono B1.out.size)); have BB := Aside0.mk (Nat.le_trans B1.out.size hb0); clear hm hb hb0)
    | (go_at_call 28; refine (DeleteFunc_calls M2.out me X2.out).mono ?_; rintro e w3 ⟨rfl, hm, ht⟩; have M3 := Aside0.mk hm; have B3 := Aside0.mk (B2.out.trans (ht.below B2.out.size (fun x hx => by simp at hx; subst hx; exact BB.out))); clear hm ht))
  go_ret
  exact ⟨b, rfl, BB.out, M3.out, B3.out⟩
def clashL (a b : List Int) : Bool := a.any fun x => b.any fun y => x == y
set_option maxHeartbeats 1000000 in
theorem ClashF_calls {w : World} {A : Option Addr} {c : Nat} {l : List Int} (hr : Kd.C (Kd.int .i64) w A l.length l) (hl : l.length ≤ 1000) {b2 : Nat} (h2 : w.cell? ⟨b2, 0, none⟩ = some (.slice A l.length c)) (x : Int) :
    Calls Try.prog 30 #[.int .i64 x, .pointer (some ⟨b2, 0, none⟩)] w fun e w' => e = .returned (.bool (l.any fun y => x == y)) ∧ Below w.heap.size w w' := by
  have HR := Aside0.mk hr
  clear hr
  go_enter Try.func30, Try.ntmps30
  go_wp2_with (go_at_call 31; refine (Contains_calls HR.out hl x).mono ?_; rintro e w3 ⟨rfl, hb⟩; have B3 := Aside0.mk hb; clear hb)
  go_ret
  exact ⟨rfl, B3.out⟩
theorem ClashF_tells {w : World} {A : Option Addr} {c : Nat} {l : List Int} (hr : Kd.C (Kd.int .i64) w A l.length l) (hl : l.length ≤ 1000) {b2 : Nat} (h2 : w.heap[b2]? = some (.cells #[.slice A l.length c] 22 (0, 0))) :
    Tells w 30 #[.pointer (some ⟨b2, 0, none⟩)] (fun x => l.any fun y => x == y) := fun W hW x hx =>
  ClashF_calls (Kd.C_below hr hW) hl (cell_of (blk_below h2 hW) (o := 0) rfl) x
set_option maxHeartbeats 1000000 in
theorem Clash_calls {w : World} {A : Option Addr} {c : Nat} {l : List Int} (hr : Kd.C (Kd.int .i64) w A l.length l) (hl : l.length ≤ 1000) (hi : ∀ k ∈ l, okn k) {B : Option Addr} {d : Nat} {t : List Int} (ht : Kd.C (Kd.int .i64) w B t.length t) (htl : t.length ≤ 1000) :
    Calls Try.prog 22 #[.slice A l.length c, .slice B t.length d] w fun e w' => e = .returned (.bool (clashL l t)) ∧ Below w.heap.size w w' := by
  have HR := Aside0.mk hr
  have HL := Aside0.mk hl
  have HI := Aside0.mk hi
  have HT := Aside0.mk ht
  have HTL := Aside0.mk htl
  have hu := Try.underlying22
  have eg : ∀ args w, (callFunc 30 args).run Try.prog w = .ok (.enter 30 args) w := fun args w => by kernel_rfl
  have EG := Aside0.mk eg
  clear hr hl hi ht htl eg
  unfold clashL
  go_enter Try.func22, Try.ntmps22
  go_wp2_with (first
    | ((with_reducible refine gate_dst (N := 3) rfl ?_); refine box_event ?hg (N := 3) ?hd (cs := #[.slice B t.length d]) (t := 22) ?hr ?_; (case hd => rfl); (case hg => rfl); (case hr => first | (go_simp; done) | (go_simp; rfl)); intro b2 hg2 w1 hbox hb; have X1 := Aside0.mk hbox; have B1 := Aside0.mk hb; clear hb hbox hg2)
    | (go_at_call 26; refine (ContainsFunc_calls (Kd.C_below HR.out B1.out) HL.out HI.out 30 _ _ (ClashF_tells (Kd.C_below HT.out B1.out) HTL.out X1.out) EG.out).mono ?_; rintro e w3 ⟨rfl, hb⟩; have B3 := Aside0.mk (B1.out.trans (hb.mono B1.out.size)); clear hb))
  go_ret
  exact ⟨rfl, B3.out⟩
end Go.Proofs.Ytoakfmdfajpejaa.Sets
