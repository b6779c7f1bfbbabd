/- A memory's calls: Load, New, Image. -/
import Derived.Handy
import Derived.WalkSpells
import Derived.Test.YtifdinoioddnlaaMemE
namespace Go.Proofs.Ytifdinoioddnlaa.Mem
open Go Go.RowKit Go.Proofs.Ytifdinoioddnlaa.ML Go.Proofs.YtifdinoioddnlaaW.PrintWords Go.Proofs.YtifdinoioddnlaaW.PrintLast Go.Proofs.YtifdinoioddnlaaW.PrintMore Go.Proofs.Ytifdinoioddnlaa.Print
set_option linter.unusedVariables false
set_option linter.unusedSimpArgs false
attribute [local go_sem] max2_int min2_int
theorem reps_ints {q : IntKind} {xs : List Int} {cs : List Value} (h : Reps (fun x c => c = [Value.int q x]) 1 xs cs) : cs = xs.map (Value.int q) := by
  obtain ⟨h1, h2⟩ := h
  refine List.ext_getElem? fun j => ?_
  rw [List.getElem?_map]
  rcases Nat.lt_or_ge j xs.length with hl | hl
  · have e := List.getElem?_eq_getElem hl
    have := h2 j _ e
    rw [Nat.mul_one] at this
    rw [e]
    have hd : (cs.drop j).take 1 = [Value.int q xs[j]] := this
    have : ((cs.drop j).take 1)[0]? = some (Value.int q xs[j]) := by rw [hd]; rfl
    rw [List.getElem?_take, if_pos (by omega), List.getElem?_drop, Nat.add_zero] at this
    exact this
  · rw [List.getElem?_eq_none hl, List.getElem?_eq_none (by omega)]
    rfl
/-- A row of numbers that is one's own. -/
theorem row_of_R {q : IntKind} {e : Nat} {w : World} {base : Nat} {ok : Nat → Prop} {v : Value} {xs : List Int} (h : Kd.R (Kd.int q) e w base ok v xs) : w.ownsRow base e 1 v xs.length (xs.map (Value.int q)) := by
  obtain ⟨_, inner, ho, hr⟩ := h
  rw [← reps_ints hr]
  exact ho
theorem R_of_row {q : IntKind} {e : Nat} {w : World} {base : Nat} {v : Value} {xs : List Int} (h : w.ownsRow base e 1 v xs.length (xs.map (Value.int q))) : Kd.R (Kd.int q) e w base (fun _ => True) v xs :=
  Kd.R_of_own (enc := Value.int q) (h1 := fun _ => rfl) h (fun _ _ => trivial)
theorem own_set {w : World} {base e n cap g : Nat} {xs : List Value} (h : w.ownsRow base e 1 (.slice (some ⟨g, 0, none⟩) n cap) n xs) {i : Nat} (hi : i < n) (u : Value) : (w.setCell ⟨g, i, none⟩ u).ownsRow base e 1 (.slice (some ⟨g, 0, none⟩) n cap) n (xs.set i u) := by
  obtain ⟨h1, h2⟩ := h
  rcases h2 with ⟨h2, _⟩ | ⟨g', cap', cur, hv, hb, hh, h3, h4, h5, h6⟩
  · cases h2
  · injection hv with hv _ hc
    injection hv with hv
    injection hv with hv
    subst hv hc
    refine ⟨by simpa using h1, .inr ⟨g, cap, _, rfl, hb, heap_set_same u hh, h3, h4, by simpa using h5, ?_⟩⟩
    rw [← h6]
    simp [List.take_set]
theorem IsRow.readC {w : World} {bs n cap : Nat} {A : Option Addr} {S : MS} (h : IsRow w bs A n cap S.sures) : Kd.C (Kd.int .u64) w A n (S.ws.map Cell.sure) := by
  have hl : S.ws.length = n := by have := h.2.2.1; simpa [MS.sures] using this
  refine ⟨by simpa using hl, Nat.le_trans h.1 h.2.1, fun h0 => ⟨⟨bs, 0, none⟩, (h.cell 0 (by omega) (by omega)).1, fun j p hj => ⟨[.int .u64 p], rfl, rfl, fun i u hi => ?_⟩⟩⟩
  rw [List.getElem?_map] at hj
  rcases Nat.lt_or_ge j S.ws.length with hlt | hge
  · have hc := (h.cell (j : Int) (by omega) (by omega)).2.1
    rw [List.getElem?_eq_getElem hlt] at hj
    simp at hj
    have hi0 : i = 0 := by
      have := (List.getElem?_eq_some_iff.1 hi).1
      simp at this
      exact this
    subst hi0
    simp at hi
    subst hi
    have e : (S.at (j : Int)).sure = p := by
      unfold MS.at
      rw [List.getD_eq_getElem?_getD]
      simp [hlt, hj]
    rw [e] at hc
    have ea : Addr.add ⟨bs, 0, none⟩ (j * (Kd.int .u64).sz + 0) = ⟨bs, j, none⟩ := by
      show Addr.add ⟨bs, 0, none⟩ (j * 1 + 0) = _
      unfold Addr.add
      split
      · have : j = 0 := by omega
        subst this; rfl
      · simp
    rw [ea]
    simpa using hc
  · rw [List.getElem?_eq_none hge] at hj
    cases hj
/-- A memory with words. -/
def loadS (l : List Int) : MS := ⟨(l.take 4096).map fun v => ⟨v, none, none⟩, 0, -1⟩
theorem loadS_len (l : List Int) : (loadS l).ws.length = min l.length 4096 := by simp [loadS]; omega
theorem loadS_sure (l : List Int) : (loadS l).ws.map Cell.sure = l.take 4096 := by
  have : (Cell.sure ∘ fun v => (⟨v, none, none⟩ : Cell)) = id := rfl
  simp [loadS, this]
theorem loadS_ok {l : List Int} (h : ∀ v ∈ l, okw v) : (loadS l).Ok := by
  refine ⟨by rw [loadS_len]; omega, fun c hc => ?_, (by show oki 0; unfold oki; omega), (by show oki (-1); unfold oki; omega)⟩
  simp only [loadS, List.mem_map] at hc
  obtain ⟨v, hv, rfl⟩ := hc
  exact ⟨h v (List.mem_of_mem_take hv), (fun _ e => by cases e), (fun _ e => by cases e)⟩
theorem loadS_loose (l : List Int) : (loadS l).looseM = [] := pick_none _ _ fun c hc => by
  simp only [loadS, List.mem_map] at hc
  obtain ⟨v, hv, rfl⟩ := hc
  rfl
theorem loadS_way (l : List Int) : (loadS l).wayM = [] := pick_none _ _ fun c hc => by
  simp only [loadS, List.mem_map] at hc
  obtain ⟨v, hv, rfl⟩ := hc
  rfl
theorem heap_new (w : World) (o : Obj) : (w.alloc o).heap[w.heap.size]? = some o := (MapKept.heap_alloc w o).1
theorem heap_old (w : World) (o : Obj) {i : Nat} (h : i < w.heap.size) : (w.alloc o).heap[i]? = w.heap[i]? := Below.heap_alloc w o i h
/-- The world of a new memory. -/
theorem made_mem {w : World} {base : Nat} {l : List Int} {A : Option Addr} {n cap : Nat} (hl : ∀ v ∈ l, okw v) (hn : n = min l.length 4096) (h : w.ownsRow base 31 1 (.slice A n cap) n ((l.take 4096).map (Value.int .u64))) (hb : base < w.heap.size ∨ n = 0) :
    ∃ f : Fp, f.p = w.heap.size + 2 ∧ (∀ b ∈ f.list, base ≤ b ∨ w.heap.size ≤ b) ∧ IsMem (((w.alloc (.map #[] 0)).alloc (.map #[] 0)).alloc (.cells #[.slice A n cap, .map (some w.heap.size), .map (some (w.heap.size + 1)), .int .i64 0, .int .i64 (-1)] 57 (0, 0))) f (loadS l) := by
  obtain ⟨h1, h2⟩ := h
  have s1 : (w.alloc (.map #[] 0)).heap.size = w.heap.size + 1 := by simp
  have s2 : ((w.alloc (.map #[] 0)).alloc (.map #[] 0)).heap.size = w.heap.size + 2 := by simp
  have key : ∀ bs, bs < w.heap.size + 3 → (∀ b ∈ [w.heap.size + 2, bs, w.heap.size, w.heap.size + 1], base ≤ b ∨ w.heap.size ≤ b) → IsRow (((w.alloc (.map #[] 0)).alloc (.map #[] 0)).alloc (.cells #[.slice A n cap, .map (some w.heap.size), .map (some (w.heap.size + 1)), .int .i64 0, .int .i64 (-1)] 57 (0, 0))) bs A n cap (loadS l).sures →
      ∃ f : Fp, f.p = w.heap.size + 2 ∧ (∀ b ∈ f.list, base ≤ b ∨ w.heap.size ≤ b) ∧ IsMem (((w.alloc (.map #[] 0)).alloc (.map #[] 0)).alloc (.cells #[.slice A n cap, .map (some w.heap.size), .map (some (w.heap.size + 1)), .int .i64 0, .int .i64 (-1)] 57 (0, 0))) f (loadS l) := by
    intro bs hbs hall hrow
    refine ⟨⟨w.heap.size + 2, bs, w.heap.size, w.heap.size + 1⟩, rfl, hall, ⟨loadS_ok hl, ⟨A, cap, ?_, ?_⟩, ?_, ?_, by simp, by simp; omega⟩⟩
    · rw [loadS_len, ← hn]
      have := heap_new ((w.alloc (.map #[] 0)).alloc (.map #[] 0)) (.cells #[.slice A n cap, .map (some w.heap.size), .map (some (w.heap.size + 1)), .int .i64 0, .int .i64 (-1)] 57 (0, 0))
      rw [s2] at this
      exact this
    · rw [loadS_len, ← hn]; exact hrow
    · rw [loadS_loose]
      refine IsM.block (w := w.alloc (.map #[] 0)) (IsM.made w) ?_
      rw [heap_old _ _ (by rw [s2]; simp), heap_old _ _ (by rw [s1]; simp)]
    · rw [loadS_way]
      have hm := IsM.made (x := ek) (k := 3) (w.alloc (.map #[] 0))
      rw [s1] at hm
      refine IsM.block hm ?_
      rw [heap_old _ _ (by rw [s2]; simp)]
  have hs : (loadS l).sures = (l.take 4096).map (Value.int .u64) := by
    have : ((fun c : Cell => Value.int .u64 c.sure) ∘ fun v => (⟨v, none, none⟩ : Cell)) = Value.int .u64 := rfl
    simp [MS.sures, loadS, this]
  rcases h2 with ⟨h2, h3⟩ | ⟨g, cap', cur, hv, hbg, hh, h3, h4, h5, h6⟩
  · injection h2 with hA _ hc
    subst h3 hA hc
    refine key w.heap.size (by omega) (fun b hb => by simp at hb; omega) ⟨Nat.le_refl _, by unfold maxLen; omega, by rw [hs, h1], fun h => absurd h (by omega)⟩
  · injection hv with hA _ hc
    subst hA hc
    have hg := (Array.getElem?_eq_some_iff.1 hh).1
    refine key g (by omega) (fun b hb => by simp at hb; omega) ⟨h3, h4, by rw [hs, h1]; simp, fun h => ⟨rfl, cur, ?_, by omega, by rw [hs, ← h6]; simp⟩⟩
    rw [heap_old _ _ (by rw [s2]; omega), heap_old _ _ (by rw [s1]; omega), heap_old _ _ (by omega)]
    exact hh
set_option maxHeartbeats 1000000 in
set_option maxRecDepth 100000 in
theorem Load_calls {w : World} (A0 : Option Addr) (c0 : Nat) (l : List Int) (hr0 : Kd.C (Kd.int .u64) w A0 l.length l) (hc0 : l.length ≤ c0) (hl : ∀ v ∈ l, okw v) :
    Calls Try.prog 10 #[.slice A0 l.length c0] w fun e w' => ∃ f : Fp, e = .returned (ptr f) ∧ IsMem w' f (loadS l) ∧ (∀ b ∈ f.list, w.heap.size ≤ b) ∧ Below w.heap.size w w' := by
  obtain ⟨n, hn⟩ : ∃ n, n = min l.length 4096 := ⟨_, rfl⟩
  have ht : (l.take 4096).length = n := by rw [hn]; simp; omega
  have hC : Kd.C (Kd.int .u64) w A0 (l.take 4096).length (l.take 4096) := by
    obtain ⟨h1, h2, h3⟩ := hr0
    refine ⟨rfl, by omega, fun h0 => ?_⟩
    obtain ⟨ad, hA, h4⟩ := h3 (by omega)
    refine ⟨ad, hA, fun j p hj => h4 j p ?_⟩
    rw [List.getElem?_take] at hj
    split at hj
    · exact hj
    · cases hj
  have hcl := slices_Clone_uint64_uint64.calls A0 c0 (l.take 4096) (l.take 4096) w hC (by omega) (by unfold slices_Clone_uint64_uint64.f; rw [if_pos (by omega)])
  rw [ht] at hcl
  have fin : ∀ (v0 : Value) (w1 : World), Kd.R (Kd.int .u64) 31 w1 w.heap.size (fun _ => True) v0 (l.take 4096) → Below w.heap.size w w1 → ∃ A cap, v0 = .slice A n cap ∧ ∃ f : Fp, f.p = w1.heap.size + 2 ∧ (∀ b ∈ f.list, w.heap.size ≤ b) ∧ IsMem (((w1.alloc (.map #[] 0)).alloc (.map #[] 0)).alloc (.cells #[.slice A n cap, .map (some w1.heap.size), .map (some (w1.heap.size + 1)), .int .i64 0, .int .i64 (-1)] 57 (0, 0))) f (loadS l) := by
    intro v0 w1 hR hb
    obtain ⟨A, cap, rfl⟩ := Kd.R_slice hR
    have hrow := row_of_R hR
    rw [ht] at hrow ⊢
    have hs := hb.size
    have hor : w.heap.size < w1.heap.size ∨ n = 0 := by
      rcases hrow.2 with ⟨_, h0⟩ | ⟨g, cap', cur, hv, hbg, hh, _⟩
      · exact .inr h0
      · have := (Array.getElem?_eq_some_iff.1 hh).1; omega
    obtain ⟨f, f1, f2, f3⟩ := made_mem hl hn hrow hor
    exact ⟨A, cap, rfl, f, f1, fun b hb' => by have := f2 b hb'; omega, f3⟩
  have HF := Aside0.mk fin
  by_cases hle : l.length ≤ 4096
  · obtain rfl : n = l.length := by omega
    have g0 : (l.length : Int) ≤ 4096 := by omega
    have HC := Aside0.mk hcl
    clear hn hC hcl ht hr0 hle fin
    have hmm := @run_makeMap Try.prog
    go_enter Try.func10, Try.ntmps10
    go_wp2_with (first
      | (go_at_call 27; refine HC.out.mono ?_; rintro e w1 ⟨v0, rfl, hR, hb⟩; obtain ⟨A, cap, rfl, f, f1, f2, f3⟩ := HF.out v0 w1 hR hb; have F1 := Aside0.mk f1; have F2 := Aside0.mk f2; have F3 := Aside0.mk f3; have HB := Aside0.mk hb; clear hR hb f1 f2 f3))
    go_ret
    exact ⟨f, by simp only [ptr, F1.out]; rfl, F3.out, F2.out, ((HB.out.alloc HB.out.size _).alloc (by have := HB.out.size; simp; omega) _).alloc (by have := HB.out.size; simp; omega) _⟩
  · obtain rfl : n = 4096 := by omega
    have g0 : ¬ (l.length : Int) ≤ 4096 := by omega
    have g1 : 4096 ≤ c0 := by omega
    have HC := Aside0.mk hcl
    clear hn hC hcl ht hr0 hle fin
    have hmm := @run_makeMap Try.prog
    go_enter Try.func10, Try.ntmps10
    go_wp2_with (first
      | (go_at_call 27; refine HC.out.mono ?_; rintro e w1 ⟨v0, rfl, hR, hb⟩; obtain ⟨A, cap, rfl, f, f1, f2, f3⟩ := HF.out v0 w1 hR hb; have F1 := Aside0.mk f1; have F2 := Aside0.mk f2; have F3 := Aside0.mk f3; have HB := Aside0.mk hb; clear hR hb f1 f2 f3))
    go_ret
    exact ⟨f, by simp only [ptr, F1.out]; rfl, F3.out, F2.out, ((HB.out.alloc HB.out.size _).alloc (by have := HB.out.size; simp; omega) _).alloc (by have := HB.out.size; simp; omega) _⟩
theorem Load_calls' (A0 : Option Addr) (c0 : Nat) (m : Int) (w' : World) (l : List Int) (hr0 : Kd.C (Kd.int .u64) w' A0 m.toNat l) (hc0 : m.toNat ≤ c0) (hl : ∀ v ∈ l, okw v) :
    Calls Try.prog 10 #[.slice A0 m.toNat c0] w' fun e w'' => ∃ f : Fp, e = .returned (ptr f) ∧ IsMem w'' f (loadS l) ∧ (∀ b ∈ f.list, w'.heap.size ≤ b) ∧ Below w'.heap.size w' w'' := by
  have h1 := hr0.1
  rw [← h1] at hr0 hc0 ⊢
  exact Load_calls A0 c0 l hr0 hc0 hl
/-- A memory of n words. -/
def newS (n : Int) : MS := loadS (List.replicate (min (max n 0) 4096).toNat 0)
set_option maxHeartbeats 1000000 in
set_option maxRecDepth 100000 in
theorem New_calls (w : World) (n : Int) (hn : oki n) :
    Calls Try.prog 11 #[.int .i64 n] w fun e w' => ∃ f : Fp, e = .returned (ptr f) ∧ IsMem w' f (newS n) ∧ (∀ b ∈ f.list, w.heap.size ≤ b) ∧ Below w.heap.size w w' := by
  unfold newS oki at *
  obtain ⟨m, hm⟩ : ∃ m, min (max n 0) 4096 = m := ⟨_, rfl⟩
  rw [hm]
  by_cases h0 : n < 0
  · obtain rfl : m = 0 := by omega
    have g0 : ¬ (0 : Int) ≤ n := by omega
    clear hm hn
    go_enter Try.func11, Try.ntmps11
    go_wp2_with (first
      | ((with_reducible refine gate_dst (N := 6) rfl ?_); refine Kd.R_make (Kd.int .u64) _ 31 rfl (N := 6) rfl 22 _ _ rfl 0 rfl rfl Try.underlying22 (.int .u64 0) 8 info_u64c rfl (by decide) (by omega) 0 (ok := fun _ => True) (okp := fun _ => True) rfl (fun _ hk => hk) trivial (by omega) (by omega) (Below.refl _ _) (Nat.le_refl _) ?_; intro v0 w1 hR hb hg hn; obtain ⟨A, cap, hv, hcap, hC⟩ := Kd.R_reads hR; rw [List.length_replicate] at hv hcap hC; subst hv; have HR := Aside0.mk hC; have HB := Aside0.mk hb; have HC := Aside0.mk hcap; clear hR hb hg hn hC hcap)
      | (go_at_call 10; refine (Load_calls' A cap 0 w1 _ HR.out HC.out (fun v hv => by rw [List.eq_of_mem_replicate hv]; unfold okw; omega)).mono ?_; rintro e w2 ⟨f, rfl, f1, f2, f3⟩; have F1 := Aside0.mk f1; have F2 := Aside0.mk f2; have F3 := Aside0.mk f3; clear f1 f2 f3))
    go_ret
    exact ⟨f, rfl, F1.out, (fun b hb => Nat.le_trans HB.out.size (F2.out b hb)), HB.out.trans (F3.out.mono HB.out.size)⟩
  · have h0' : 0 ≤ n := by omega
    clear h0
    by_cases h1 : n ≤ 4096
    · obtain rfl : m = n := by omega
      clear hm hn
      go_enter Try.func11, Try.ntmps11
      go_wp2_with (first
        | ((with_reducible refine gate_dst (N := 6) rfl ?_); refine Kd.R_make (Kd.int .u64) _ 31 rfl (N := 6) rfl 22 _ _ rfl m rfl rfl Try.underlying22 (.int .u64 0) 8 info_u64c rfl (by decide) (by omega) 0 (ok := fun _ => True) (okp := fun _ => True) rfl (fun _ hk => hk) trivial (by omega) (by omega) (Below.refl _ _) (Nat.le_refl _) ?_; intro v0 w1 hR hb hg hn; obtain ⟨A, cap, hv, hcap, hC⟩ := Kd.R_reads hR; rw [List.length_replicate] at hv hcap hC; subst hv; have HR := Aside0.mk hC; have HB := Aside0.mk hb; have HC := Aside0.mk hcap; clear hR hb hg hn hC hcap)
        | (go_at_call 10; refine (Load_calls' A cap m w1 _ HR.out HC.out (fun v hv => by rw [List.eq_of_mem_replicate hv]; unfold okw; omega)).mono ?_; rintro e w2 ⟨f, rfl, f1, f2, f3⟩; have F1 := Aside0.mk f1; have F2 := Aside0.mk f2; have F3 := Aside0.mk f3; clear f1 f2 f3))
      go_ret
      exact ⟨f, rfl, F1.out, (fun b hb => Nat.le_trans HB.out.size (F2.out b hb)), HB.out.trans (F3.out.mono HB.out.size)⟩
    · obtain rfl : m = 4096 := by omega
      clear hm hn
      go_enter Try.func11, Try.ntmps11
      go_wp2_with (first
        | ((with_reducible refine gate_dst (N := 6) rfl ?_); refine Kd.R_make (Kd.int .u64) _ 31 rfl (N := 6) rfl 22 _ _ rfl 4096 rfl rfl Try.underlying22 (.int .u64 0) 8 info_u64c rfl (by decide) (by omega) 0 (ok := fun _ => True) (okp := fun _ => True) rfl (fun _ hk => hk) trivial (by omega) (by omega) (Below.refl _ _) (Nat.le_refl _) ?_; intro v0 w1 hR hb hg hn; obtain ⟨A, cap, hv, hcap, hC⟩ := Kd.R_reads hR; rw [List.length_replicate] at hv hcap hC; subst hv; have HR := Aside0.mk hC; have HB := Aside0.mk hb; have HC := Aside0.mk hcap; clear hR hb hg hn hC hcap)
        | (go_at_call 10; refine (Load_calls' A cap 4096 w1 _ HR.out HC.out (fun v hv => by rw [List.eq_of_mem_replicate hv]; unfold okw; omega)).mono ?_; rintro e w2 ⟨f, rfl, f1, f2, f3⟩; have F1 := Aside0.mk f1; have F2 := Aside0.mk f2; have F3 := Aside0.mk f3; clear f1 f2 f3))
      go_ret
      exact ⟨f, rfl, F1.out, (fun b hb => Nat.le_trans HB.out.size (F2.out b hb)), HB.out.trans (F3.out.mono HB.out.size)⟩
end Go.Proofs.Ytifdinoioddnlaa.Mem
