/- Sets of files: maps that are copied. (Printed by wip/tools/mk15a.py.) -/
import Derived.Handy
import Derived.Test.YtoakfmdfajpejaaPrint1
import Derived.Test.YtoakfmdfajpejaaMapL
namespace Go.Proofs.Ytoakfmdfajpejaa.Sets
open Go Go.Maps Go.RowKit Go.Proofs.Ytoakfmdfajpejaa.ML Go.Proofs.Ytoakfmdfajpejaa.Print Go.Proofs.YtoakfmdfajpejaaW.PrintWords Go.Proofs.YtoakfmdfajpejaaW.PrintLast Go.Proofs.YtoakfmdfajpejaaW.PrintMore
set_option linter.unusedVariables false
set_option linter.unusedSimpArgs false
theorem zrunU (w : World) : (zeroValue 31).run Try.prog w = .ok (.int .u64 0) w := by kernel_rfl
theorem zrunI (w : World) : (zeroValue 3).run Try.prog w = .ok (.int .i64 0) w := by kernel_rfl
def ekU : EK Try.prog 31 Int := ekInt Try.underlying31 zrunU
def ekI : EK Try.prog 3 Int := ekInt Try.underlying3 zrunI
theorem mtMU : MT Try.prog 25 3 31 := ⟨Try.underlying25, Try.underlying3⟩
theorem mtSeen : MT Try.prog 26 3 31 := ⟨Try.underlying26, Try.underlying3⟩
theorem mtMI : MT Try.prog 41 3 3 := ⟨Try.underlying41, Try.underlying3⟩
theorem mtHolds : MT Try.prog 42 3 3 := ⟨Try.underlying42, Try.underlying3⟩
/-- But for the blocks L nothing has turned. -/
structure Turn (L : List Nat) (w w' : World) : Prop where
  os : w'.os = w.os
  tape : w'.tape = w.tape
  output : w'.output = w.output
  size : w.heap.size ≤ w'.heap.size
  block : ∀ k, k < w.heap.size → k ∉ L → w'.heap[k]? = w.heap[k]?
theorem Turn.refl (L : List Nat) (w : World) : Turn L w w := ⟨rfl, rfl, rfl, Nat.le_refl _, fun _ _ _ => rfl⟩
theorem Turn.trans {L : List Nat} {a b c : World} (h : Turn L a b) (k : Turn L b c) : Turn L a c :=
  ⟨k.os.trans h.os, k.tape.trans h.tape, k.output.trans h.output, Nat.le_trans h.size k.size, fun i hi hn => (k.block i (Nat.lt_of_lt_of_le hi h.size) hn).trans (h.block i hi hn)⟩
theorem Turn.mono {L L' : List Nat} {w w' : World} (h : Turn L w w') (hL : ∀ x ∈ L, x ∈ L' ∨ w.heap.size ≤ x) : Turn L' w w' :=
  ⟨h.os, h.tape, h.output, h.size, fun k hk hn => h.block k hk fun hm => (hL k hm).elim hn (by omega)⟩
theorem Turn.below {L : List Nat} {w w' : World} (h : Turn L w w') {B : Nat} (hB : B ≤ w.heap.size) (hL : ∀ x ∈ L, B ≤ x) : Below B w w' :=
  ⟨h.os, h.tape, h.output, h.size, fun k hk => h.block k (by omega) fun hm => by have := hL k hm; omega⟩
theorem Turn.of_below {w w' : World} (h : Below w.heap.size w w') (L : List Nat) : Turn L w w' := ⟨h.os, h.tape, h.output, h.size, fun k hk _ => h.block k hk⟩
theorem Turn.of_grown {w w' : World} {b : Nat} (h : w.grownBy w' (some b)) : Turn [b] w w' := ⟨h.os, h.tape, h.output, h.size, fun k hk hn => h.block k hk (by simpa using hn)⟩
theorem Turn.of_grown0 {w w' : World} (h : w.grownBy w' none) (L : List Nat) : Turn L w w' := ⟨h.os, h.tape, h.output, h.size, fun k hk _ => h.block k hk (by simp)⟩
theorem Turn.step {L : List Nat} {a b c : World} {r : Nat} (h : Turn L a b) (k : b.grownBy c (some r)) (hr : a.heap.size ≤ r) : Turn L a c :=
  ⟨k.os.trans h.os, k.tape.trans h.tape, k.output.trans h.output, Nat.le_trans h.size k.size, fun i hi hn => (k.block i (Nat.lt_of_lt_of_le hi h.size) (by simp; omega)).trans (h.block i hi hn)⟩
theorem grown_of_below {w w' : World} (h : Below w.heap.size w w') : w.grownBy w' none := ⟨h.os, h.tape, h.output, h.size, fun k hk _ => h.block k hk⟩
theorem IsMbelow {P : Program} {e : TypeId} {α : Type} {x : EK P e α} {k : TypeId} {w w' : World} {b : Nat} {m : List (Int × α)} (h : IsM x k w b m) {B : Nat} (hB : b < B) (hb : Below B w w') : IsM x k w' b m := h.block (hb.block b hB)
theorem get_filter {α : Type} (p : Int → Bool) (m : List (Int × α)) (k : Int) : get (m.filter fun y => p y.1) k = if p k = true then get m k else none := by
  induction m with
  | nil => rw [List.filter_nil, get_nil]; split <;> rfl
  | cons y r ih =>
    rw [List.filter_cons, get_cons]
    by_cases hp : p y.1 = true
    · rw [if_pos hp, get_cons, ih]
      by_cases hy : y.1 = k
      · subst hy; simp [hp]
      · simp [hy]
    · rw [if_neg hp, ih]
      by_cases hy : y.1 = k
      · subst hy; simp [hp]
      · simp [hy]
theorem sorted_filter {α : Type} {m : List (Int × α)} (h : Sorted m) (p : Int × α → Bool) : Sorted (m.filter p) := List.Pairwise.filter _ h
theorem range_key {left left' : Lit → Bool} {x : Int} (h : left' = fun z => left z && !z.sameKey (.int .i64 x)) (i : Int) : left' (.int .i64 i) = (left (.int .i64 i) && !(i == x)) := by
  subst h
  simp [Lit.sameKey, Bool.beq_eq_decide_eq]
theorem cell_of {w : World} {b o : Nat} {c : Array Value} {e : TypeId} {fr : Nat × Nat} {v : Value} (h : w.heap[b]? = some (.cells c e fr)) (hv : c[o]? = some v) : w.cell? ⟨b, o, none⟩ = some v := by
  simp [World.cell?, h, hv]
theorem frozen_of {w : World} {b o : Nat} {c : Array Value} {e : TypeId} (h : w.heap[b]? = some (.cells c e (0, 0))) : w.frozen? ⟨b, o, none⟩ = false := by
  simp [World.frozen?, h]
theorem blk_lt {w : World} {b : Nat} {o : Obj} (h : w.heap[b]? = some o) : b < w.heap.size := (Array.getElem?_eq_some_iff.1 h).1
theorem blk_below {w w' : World} {b : Nat} {o : Obj} (h : w.heap[b]? = some o) (hb : Below w.heap.size w w') : w'.heap[b]? = some o := (hb.block b (blk_lt h)).trans h
section nil
variable {P : Program} {ops : Array Oper} {rest : List Oper} {o : Oper} {a : Act} {Q : Exit → Act → World → Prop} {w : World}
theorem range_nil {k e : TypeId} (hg : o.guard = none) (mo : Operand) (t : TypeId) (hop : o.op = Op.range t mo) (ht : P.underlying t = some (.map k e)) (hm : a.eval mo = .map none)
    (hK : wpList P ops Q rest (a.put o.dst (.pointer (some ⟨w.heap.size, 0, none⟩))) (w.alloc (.mapIter none 0 #[] 0))) : wpList P ops Q (o :: rest) a w := by
  refine wpList_plain hg fun K' hK' => ?_
  have hrun : (Instr.range t (.map none)).run P w = .ok (.pointer (some ⟨w.heap.size, 0, none⟩)) (w.alloc (.mapIter none 0 #[] 0)) := by simp [Instr.range, run_underlying ht]
  unfold Oper.wp
  simp [execOp, hop, hm, hrun, Result.andThen]
  exact hK' _ _ hK
theorem next_nil {r : Nat} (hg : o.guard = none) (it : Operand) (hop : o.op = Op.next it false) (hit : a.eval it = .pointer (some ⟨r, 0, none⟩)) (h : w.heap[r]? = some (.mapIter none 0 #[] 0))
    (hK : wpList P ops Q rest (a.put o.dst (.tuple #[.bool false])) w) : wpList P ops Q (o :: rest) a w := by
  refine wpList_plain hg fun K' hK' => ?_
  have hrun : (Instr.next (.pointer (some ⟨r, 0, none⟩)) false o.type).run P w = .ok (.tuple #[.bool false]) w := by
    simp only [Instr.next, getObj, Sem.run_bind, Sem.run, h, Result.andThen]
    rfl
  unfold Oper.wp
  simp [execOp, hop, hit, hrun, Result.andThen]
  exact hK' _ _ hK
end nil
theorem put_left {α : Type} {m : List (Int × α)} (hs : Sorted m) (left : Lit → Bool) {x : Int} {c : α} (hx : get m x = some c) :
    put (m.filter fun y => !left (.int .i64 y.1)) x c = m.filter fun y => !(left (.int .i64 y.1) && !(Lit.int .i64 y.1).sameKey (.int .i64 x)) := by
  refine ext (sorted_put (sorted_filter hs _) _ _) (sorted_filter hs _) fun k => ?_
  rw [get_put, get_filter (fun i => !left (.int .i64 i)), get_filter (fun i => !(left (.int .i64 i) && !(Lit.int .i64 i).sameKey (.int .i64 x)))]
  by_cases h : k = x
  · subst h; simp [hx, Lit.sameKey, Bool.beq_eq_decide_eq]
  · simp [h, Lit.sameKey, Bool.beq_eq_decide_eq]
theorem fil_start {m : List (Int × Int)} {left : Lit → Bool} (h : ∀ i, left (.int .i64 i) = (get m i).isSome) (hs : Sorted m) : (m.filter fun y => !left (.int .i64 y.1)) = [] := by
  refine List.filter_eq_nil_iff.2 fun y hy => ?_
  have := get_of_mem hs (k := y.1) (v := y.2) hy
  simp [h, this]
theorem fil_end {m : List (Int × Int)} {left : Lit → Bool} (h : ∀ k, left k = false) : (m.filter fun y => !left (.int .i64 y.1)) = m := List.filter_eq_self.2 fun y hy => by simp [h]

abbrev RangeU (w : World) (b r n : Nat) (m : List (Int × Int)) (left : Lit → Bool) (cnt : Nat) : Prop := w.ranges Try.prog 3 (plainElem (H := Unit) Try.prog 31) b r n (ML.D ekU m) left cnt
theorem range_getU {m : List (Int × Int)} {x c : Int} (h : ∀ zd, (ML.D ekU m).atKey (.int .i64 x) zd = .lit (.int .u64 c)) : get m x = some c := by
  have h0 := h (.lit (.int .u64 0))
  have h1 := h (.lit (.int .u64 1))
  have e0 := D_get ekU m x 0
  have e1 := D_get ekU m x 1
  cases hg : get m x with
  | none =>
    rw [hg] at e0 e1
    have k0 := e0.symm.trans h0
    have k1 := e1.symm.trans h1
    simp only [Option.getD_none] at k0 k1
    injection k0 with k0
    injection k1 with k1
    injection k0 with _ k0
    injection k1 with _ k1
    omega
  | some v =>
    rw [hg] at e0
    have k0 := e0.symm.trans h0
    simp only [Option.getD_some] at k0
    injection k0 with k0
    injection k0 with _ k0
    rw [k0]
set_option maxHeartbeats 2000000 in
theorem CopyU_calls {w : World} {b s : Nat} {m : List (Int × Int)} (hb : IsM ekU 3 w b []) (hs : IsM ekU 3 w s m) (hne : b ≠ s) (hl : m.length ≤ 100000) :
    Calls Try.prog 32 #[.map (some b), .map (some s)] w fun e w' => e = .returned (.tuple #[]) ∧ IsM ekU 3 w' b m ∧ Turn [b] w w' := by
  have HBS := Aside0.mk hb
  have HS := Aside0.mk hs
  have HN := Aside0.mk hne
  have HL := Aside0.mk hl
  have SO := Aside0.mk (hs.sorted mtMU)
  have BL := Aside0.mk hb.lt
  have SL := Aside0.mk hs.lt
  clear hb hs hne hl
  go_enter Try.func32, Try.ntmps32
  go_wp2_with (at_range; refine wpList_range_own _ rfl _ 25 rfl 3 31 mtMU.keyed mtMU.ht _ s _ _ rfl HS.out ?_; intro w2 hrg0 hg0 hs0)
  obtain ⟨r, hrr⟩ : ∃ r, w.heap.size = r := ⟨_, rfl⟩
  rw [hrr] at hrg0 ⊢
  go_frame
  have RG := Aside0.mk hrg0
  have G0 := Aside0.mk hg0
  have RR := Aside0.mk hrr
  clear hrg0 hg0 hs0 hrr
  go_loopw [] (fun wr => ∃ (left : Lit → Bool) (cnt : Nat), RangeU wr s r m.length m left cnt ∧ IsM ekU 3 wr b (m.filter fun y => !left (.int .i64 y.1)) ∧ Turn [b] w wr) (fun wr => wr.rangeLeft s r)
  case atStart =>
    refine ⟨_, _, RG.out, ?_, Turn.of_grown0 G0.out _⟩
    rw [fil_start (fun i => D_has ekU m i) SO.out]
    exact HBS.out.block (G0.out.block _ BL.out (by simp))
  case round =>
    obtain ⟨left, cnt, hrg, hm, ht⟩ := hrel
    have HG := Aside0.mk hrg
    have HM := Aside0.mk hm
    have HT := Aside0.mk ht
    clear hrg hm ht
    go_wp2_with (first
      | (at_next; refine wpList_next_ranges_ii _ rfl _ rfl 3 31 .i64 .u64 mtMU.keyed mtMU.hk Try.underlying31 s r _ _ _ _ rfl HG.out ?_ ?_))
    · intro hc0 hl0
      have HE := Aside0.mk hl0
      clear hc0 hl0
      go_wp2
      go_returns
      have hm := HM.out
      rw [fil_end HE.out] at hm
      exact ⟨rfl, hm, HT.out⟩
    · intro x c w2 cnt2 hwx hwc hlx hat hrg2 hlt hg2 hs2 hen
      have hget := range_getU hat
      have hbr : b < r := by rw [← RR.out]; exact BL.out
      have t2 : Turn [b] w w2 := HT.out.step hg2 (by rw [RR.out]; omega)
      have m2 := HM.out.block (hg2.block b (by have := HT.out.size; have := BL.out; omega) (by simp; omega))
      have WX := Aside0.mk hwx
      have WC := Aside0.mk hwc
      have T2 := Aside0.mk t2
      have M2 := Aside0.mk m2
      have R2 := Aside0.mk hrg2
      have LT := Aside0.mk hlt
      have GE := Aside0.mk hget
      have BR := Aside0.mk hbr
      clear hget hbr t2 m2 hlt hlx hat hrg2 hg2 hs2 hwx hwc
      go_wp2_with (at_mapUpdate; refine wp_put (x := ekU) mtMU rfl _ _ _ rfl rfl M2.out (by have := List.length_filter_le (fun y : Int × Int => !left (.int .i64 y.1)) m; have := HL.out; omega) x c rfl rfl WX.out WC.out ?_; intro w3 hm3 ht3; rw [put_left SO.out left GE.out] at hm3; have M3 := Aside0.mk hm3; have T3 := Aside0.mk (turned_of ht3); clear hm3 ht3)
      go_frame
      go_roundw
      case rel => exact ⟨_, cnt2, World.ranges.kept R2.out T3.out (by have := HN.out; simp; omega) (by have := BR.out; simp; omega), M3.out, T2.out.trans (Turn.of_grown T3.out)⟩
      case measure => rw [(World.ranges.kept R2.out T3.out (by have := HN.out; simp; omega) (by have := BR.out; simp; omega)).left_eq, HG.out.left_eq]; exact LT.out

set_option maxHeartbeats 1000000 in
theorem CopyU_nil {w : World} {v : Value} : Calls Try.prog 32 #[v, .map none] w fun e w' => e = .returned (.tuple #[]) ∧ Below w.heap.size w w' := by
  go_enter Try.func32, Try.ntmps32
  go_wp2_with (at_range; refine range_nil (k := 3) (e := 31) rfl _ 25 rfl mtMU.ht rfl ?_)
  have HB := Aside0.mk ((Below.refl w.heap.size w).alloc (Nat.le_refl _) (.mapIter none 0 #[] 0))
  have HI := Aside0.mk (show (w.alloc (.mapIter none 0 #[] 0)).heap[w.heap.size]? = some (.mapIter none 0 #[] 0) from heap_alloc_new w _)
  obtain ⟨r, hrr⟩ : ∃ r, w.heap.size = r := ⟨_, rfl⟩
  rw [hrr] at HB HI ⊢
  have HR := Aside0.mk hrr
  clear hrr
  generalize w.alloc (.mapIter none 0 #[] 0) = w1 at HB HI ⊢
  go_frame
  go_loopw [] (fun wr => wr = w1) (fun wr => 0)
  case atStart => rfl
  case round =>
    subst hrel
    go_wp2_with (at_next; refine next_nil (r := r) rfl _ rfl rfl HI.out ?_)
    go_returns
    exact ⟨rfl, HR.out ▸ HB.out⟩
/-- A map's value: nil, or a block. -/
def MvU (w : World) (v : Value) (m : List (Int × Int)) : Prop := (v = .map none ∧ m = []) ∨ ∃ s, v = .map (some s) ∧ IsM ekU 3 w s m
theorem MvU.below {w w' : World} {v : Value} {m : List (Int × Int)} (h : MvU w v m) (hb : Below w.heap.size w w') : MvU w' v m := by
  rcases h with h | ⟨s, h1, h2⟩
  · exact .inl h
  · exact .inr ⟨s, h1, IsMbelow h2 h2.lt hb⟩
theorem MvU.sorted {w : World} {v : Value} {m : List (Int × Int)} (h : MvU w v m) : Sorted m := by
  rcases h with ⟨_, rfl⟩ | ⟨s, h1, h2⟩
  · exact sorted_nil
  · exact h2.sorted mtMU
set_option maxHeartbeats 1000000 in
theorem copiedU_calls {w : World} {v : Value} {m : List (Int × Int)} (h : MvU w v m) (hl : m.length ≤ 100000) :
    Calls Try.prog 24 #[v] w fun e w' => ∃ b, e = .returned (.map (some b)) ∧ w.heap.size ≤ b ∧ IsM ekU 3 w' b m ∧ Below w.heap.size w w' := by
  have hmm := @run_makeMap Try.prog
  have HM0 := Aside0.mk (IsM.made (x := ekU) (k := 3) w)
  have HB0 := Aside0.mk ((Below.refl w.heap.size w).alloc (Nat.le_refl _) (.map #[] 0))
  have HL := Aside0.mk hl
  rcases h with ⟨rfl, rfl⟩ | ⟨s, rfl, hs⟩
  · clear hl
    go_enter Try.func24, Try.ntmps24
    go_wp2_with (go_at_call 32; refine CopyU_nil.mono ?_; rintro e w1 ⟨rfl, hb⟩; have HM1 := Aside0.mk (IsMbelow HM0.out HM0.out.lt hb); have HB1 := Aside0.mk (HB0.out.trans (hb.mono HB0.out.size)); clear hb)
    go_ret
    exact ⟨_, rfl, Nat.le_refl _, HM1.out, HB1.out⟩
  · have HS := Aside0.mk (IsMbelow hs hs.lt HB0.out)
    have SL := Aside0.mk hs.lt
    clear hl hs
    go_enter Try.func24, Try.ntmps24
    go_wp2_with (go_at_call 32; refine (CopyU_calls HM0.out HS.out (by have := SL.out; omega) HL.out).mono ?_; rintro e w1 ⟨rfl, hm, ht⟩; have HM1 := Aside0.mk hm; have HB1 := Aside0.mk (HB0.out.trans (ht.below HB0.out.size (fun x hx => by simp at hx; omega))); clear hm ht)
    go_ret
    exact ⟨_, rfl, Nat.le_refl _, HM1.out, HB1.out⟩

abbrev RangeI (w : World) (b r n : Nat) (m : List (Int × Int)) (left : Lit → Bool) (cnt : Nat) : Prop := w.ranges Try.prog 3 (plainElem (H := Unit) Try.prog 3) b r n (ML.D ekI m) left cnt
theorem range_getI {m : List (Int × Int)} {x c : Int} (h : ∀ zd, (ML.D ekI m).atKey (.int .i64 x) zd = .lit (.int .i64 c)) : get m x = some c := by
  have h0 := h (.lit (.int .i64 0))
  have h1 := h (.lit (.int .i64 1))
  have e0 := D_get ekI m x 0
  have e1 := D_get ekI m x 1
  cases hg : get m x with
  | none =>
    rw [hg] at e0 e1
    have k0 := e0.symm.trans h0
    have k1 := e1.symm.trans h1
    simp only [Option.getD_none] at k0 k1
    injection k0 with k0
    injection k1 with k1
    injection k0 with _ k0
    injection k1 with _ k1
    omega
  | some v =>
    rw [hg] at e0
    have k0 := e0.symm.trans h0
    simp only [Option.getD_some] at k0
    injection k0 with k0
    injection k0 with _ k0
    rw [k0]
set_option maxHeartbeats 2000000 in
theorem CopyI_calls {w : World} {b s : Nat} {m : List (Int × Int)} (hb : IsM ekI 3 w b []) (hs : IsM ekI 3 w s m) (hne : b ≠ s) (hl : m.length ≤ 100000) :
    Calls Try.prog 33 #[.map (some b), .map (some s)] w fun e w' => e = .returned (.tuple #[]) ∧ IsM ekI 3 w' b m ∧ Turn [b] w w' := by
  have HBS := Aside0.mk hb
  have HS := Aside0.mk hs
  have HN := Aside0.mk hne
  have HL := Aside0.mk hl
  have SO := Aside0.mk (hs.sorted mtMI)
  have BL := Aside0.mk hb.lt
  have SL := Aside0.mk hs.lt
  clear hb hs hne hl
  go_enter Try.func33, Try.ntmps33
  go_wp2_with (at_range; refine wpList_range_own _ rfl _ 41 rfl 3 3 mtMI.keyed mtMI.ht _ s _ _ rfl HS.out ?_; intro w2 hrg0 hg0 hs0)
  obtain ⟨r, hrr⟩ : ∃ r, w.heap.size = r := ⟨_, rfl⟩
  rw [hrr] at hrg0 ⊢
  go_frame
  have RG := Aside0.mk hrg0
  have G0 := Aside0.mk hg0
  have RR := Aside0.mk hrr
  clear hrg0 hg0 hs0 hrr
  go_loopw [] (fun wr => ∃ (left : Lit → Bool) (cnt : Nat), RangeI wr s r m.length m left cnt ∧ IsM ekI 3 wr b (m.filter fun y => !left (.int .i64 y.1)) ∧ Turn [b] w wr) (fun wr => wr.rangeLeft s r)
  case atStart =>
    refine ⟨_, _, RG.out, ?_, Turn.of_grown0 G0.out _⟩
    rw [fil_start (fun i => D_has ekI m i) SO.out]
    exact HBS.out.block (G0.out.block _ BL.out (by simp))
  case round =>
    obtain ⟨left, cnt, hrg, hm, ht⟩ := hrel
    have HG := Aside0.mk hrg
    have HM := Aside0.mk hm
    have HT := Aside0.mk ht
    clear hrg hm ht
    go_wp2_with (first
      | (at_next; refine wpList_next_ranges_ii _ rfl _ rfl 3 3 .i64 .i64 mtMI.keyed mtMI.hk Try.underlying3 s r _ _ _ _ rfl HG.out ?_ ?_))
    · intro hc0 hl0
      have HE := Aside0.mk hl0
      clear hc0 hl0
      go_wp2
      go_returns
      have hm := HM.out
      rw [fil_end HE.out] at hm
      exact ⟨rfl, hm, HT.out⟩
    · intro x c w2 cnt2 hwx hwc hlx hat hrg2 hlt hg2 hs2 hen
      have hget := range_getI hat
      have hbr : b < r := by rw [← RR.out]; exact BL.out
      have t2 : Turn [b] w w2 := HT.out.step hg2 (by rw [RR.out]; omega)
      have m2 := HM.out.block (hg2.block b (by have := HT.out.size; have := BL.out; omega) (by simp; omega))
      have WX := Aside0.mk hwx
      have WC := Aside0.mk hwc
      have T2 := Aside0.mk t2
      have M2 := Aside0.mk m2
      have R2 := Aside0.mk hrg2
      have LT := Aside0.mk hlt
      have GE := Aside0.mk hget
      have BR := Aside0.mk hbr
      clear hget hbr t2 m2 hlt hlx hat hrg2 hg2 hs2 hwx hwc
      go_wp2_with (at_mapUpdate; refine wp_put (x := ekI) mtMI rfl _ _ _ rfl rfl M2.out (by have := List.length_filter_le (fun y : Int × Int => !left (.int .i64 y.1)) m; have := HL.out; omega) x c rfl rfl WX.out WC.out ?_; intro w3 hm3 ht3; rw [put_left SO.out left GE.out] at hm3; have M3 := Aside0.mk hm3; have T3 := Aside0.mk (turned_of ht3); clear hm3 ht3)
      go_frame
      go_roundw
      case rel => exact ⟨_, cnt2, World.ranges.kept R2.out T3.out (by have := HN.out; simp; omega) (by have := BR.out; simp; omega), M3.out, T2.out.trans (Turn.of_grown T3.out)⟩
      case measure => rw [(World.ranges.kept R2.out T3.out (by have := HN.out; simp; omega) (by have := BR.out; simp; omega)).left_eq, HG.out.left_eq]; exact LT.out

set_option maxHeartbeats 1000000 in
theorem CopyI_nil {w : World} {v : Value} : Calls Try.prog 33 #[v, .map none] w fun e w' => e = .returned (.tuple #[]) ∧ Below w.heap.size w w' := by
  go_enter Try.func33, Try.ntmps33
  go_wp2_with (at_range; refine range_nil (k := 3) (e := 3) rfl _ 41 rfl mtMI.ht rfl ?_)
  have HB := Aside0.mk ((Below.refl w.heap.size w).alloc (Nat.le_refl _) (.mapIter none 0 #[] 0))
  have HI := Aside0.mk (show (w.alloc (.mapIter none 0 #[] 0)).heap[w.heap.size]? = some (.mapIter none 0 #[] 0) from heap_alloc_new w _)
  obtain ⟨r, hrr⟩ : ∃ r, w.heap.size = r := ⟨_, rfl⟩
  rw [hrr] at HB HI ⊢
  have HR := Aside0.mk hrr
  clear hrr
  generalize w.alloc (.mapIter none 0 #[] 0) = w1 at HB HI ⊢
  go_frame
  go_loopw [] (fun wr => wr = w1) (fun wr => 0)
  case atStart => rfl
  case round =>
    subst hrel
    go_wp2_with (at_next; refine next_nil (r := r) rfl _ rfl rfl HI.out ?_)
    go_returns
    exact ⟨rfl, HR.out ▸ HB.out⟩
/-- A map's value: nil, or a block. -/
def MvI (w : World) (v : Value) (m : List (Int × Int)) : Prop := (v = .map none ∧ m = []) ∨ ∃ s, v = .map (some s) ∧ IsM ekI 3 w s m
theorem MvI.below {w w' : World} {v : Value} {m : List (Int × Int)} (h : MvI w v m) (hb : Below w.heap.size w w') : MvI w' v m := by
  rcases h with h | ⟨s, h1, h2⟩
  · exact .inl h
  · exact .inr ⟨s, h1, IsMbelow h2 h2.lt hb⟩
theorem MvI.sorted {w : World} {v : Value} {m : List (Int × Int)} (h : MvI w v m) : Sorted m := by
  rcases h with ⟨_, rfl⟩ | ⟨s, h1, h2⟩
  · exact sorted_nil
  · exact h2.sorted mtMI
set_option maxHeartbeats 1000000 in
theorem copiedI_calls {w : World} {v : Value} {m : List (Int × Int)} (h : MvI w v m) (hl : m.length ≤ 100000) :
    Calls Try.prog 25 #[v] w fun e w' => ∃ b, e = .returned (.map (some b)) ∧ w.heap.size ≤ b ∧ IsM ekI 3 w' b m ∧ Below w.heap.size w w' := by
  have hmm := @run_makeMap Try.prog
  have HM0 := Aside0.mk (IsM.made (x := ekI) (k := 3) w)
  have HB0 := Aside0.mk ((Below.refl w.heap.size w).alloc (Nat.le_refl _) (.map #[] 0))
  have HL := Aside0.mk hl
  rcases h with ⟨rfl, rfl⟩ | ⟨s, rfl, hs⟩
  · clear hl
    go_enter Try.func25, Try.ntmps25
    go_wp2_with (go_at_call 33; refine CopyI_nil.mono ?_; rintro e w1 ⟨rfl, hb⟩; have HM1 := Aside0.mk (IsMbelow HM0.out HM0.out.lt hb); have HB1 := Aside0.mk (HB0.out.trans (hb.mono HB0.out.size)); clear hb)
    go_ret
    exact ⟨_, rfl, Nat.le_refl _, HM1.out, HB1.out⟩
  · have HS := Aside0.mk (IsMbelow hs hs.lt HB0.out)
    have SL := Aside0.mk hs.lt
    clear hl hs
    go_enter Try.func25, Try.ntmps25
    go_wp2_with (go_at_call 33; refine (CopyI_calls HM0.out HS.out (by have := SL.out; omega) HL.out).mono ?_; rintro e w1 ⟨rfl, hm, ht⟩; have HM1 := Aside0.mk hm; have HB1 := Aside0.mk (HB0.out.trans (ht.below HB0.out.size (fun x hx => by simp at hx; omega))); clear hm ht)
    go_ret
    exact ⟨_, rfl, Nat.le_refl _, HM1.out, HB1.out⟩
end Go.Proofs.Ytoakfmdfajpejaa.Sets
