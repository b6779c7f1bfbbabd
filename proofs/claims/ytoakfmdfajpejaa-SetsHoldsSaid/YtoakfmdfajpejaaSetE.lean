/- Sets of files: the document's words, in plain Lean. -/
import Derived.Test.YtoakfmdfajpejaaSetD
import Derived.Test.YtoakfmdfajpejaaPrint2
namespace Go.Proofs.Ytoakfmdfajpejaa.Sets
open Go Go.Maps Go.RowKit Go.Proofs.Ytoakfmdfajpejaa.ML Go.Proofs.Ytoakfmdfajpejaa.Print Go.Proofs.YtoakfmdfajpejaaW.PrintWords Go.Proofs.YtoakfmdfajpejaaW.PrintLast Go.Proofs.YtoakfmdfajpejaaW.PrintMore
set_option linter.unusedVariables false
set_option linter.unusedSimpArgs false
theorem wrap_small {x : Int} (h0 : 0 ≤ x) (h : x < 9223372036854775808) : wrap64 x = x := by unfold wrap64; omega
theorem rd_nat (l : List Int) (i : Nat) (h : i < l.length) : rd l (i : Int) = l[i] := by
  unfold rd
  rw [Int.toNat_natCast, List.getD_eq_getElem?_getD, List.getElem?_eq_getElem h]
  rfl
theorem clash1 (a b : List Int) (ha : a.length ≤ 1000) (hb : b.length ≤ 1000) (i : Nat) (hi : i < a.length) (r0 : Bool) (h0 : ∃ k, escritoireref15_Clash.l0 k a b ((i + 1 : Nat) : Int) = some r0) :
    ∀ n j, b.length - j = n → j ≤ b.length → ∃ k, escritoireref15_Clash.l1 k a b i j = some ((b.drop j).any (fun y => a[i] == y) || r0) := by
  intro n
  induction n with
  | zero =>
    intro j hn hj
    obtain ⟨k, hk⟩ := h0
    refine ⟨k + 1, ?_⟩
    have : j = b.length := by omega
    subst this
    unfold escritoireref15_Clash.l1
    rw [if_neg (by omega), List.drop_length, wrap_small (by omega) (by omega)]
    simpa using hk
  | succ n ih =>
    intro j hn hj
    have hjl : j < b.length := by omega
    obtain ⟨k, hk⟩ := ih (j + 1) (by omega) (by omega)
    refine ⟨k + 1, ?_⟩
    unfold escritoireref15_Clash.l1
    rw [if_pos (by omega), if_pos (by omega), if_pos (by omega), if_pos (by omega), rd_nat a i hi, rd_nat b j hjl, List.drop_eq_getElem_cons hjl, List.any_cons, wrap_small (by omega) (by omega)]
    by_cases he : a[i] = b[j]
    · rw [if_pos he]; simp [he]
    · rw [if_neg he]
      have : ((j : Int) + 1) = ((j + 1 : Nat) : Int) := by omega
      rw [this, hk, show (a[i] == b[j]) = false from by simpa using he, Bool.false_or]
theorem clash0 (a b : List Int) (ha : a.length ≤ 1000) (hb : b.length ≤ 1000) : ∀ n i, a.length - i = n → i ≤ a.length → ∃ k, escritoireref15_Clash.l0 k a b (i : Nat) = some ((a.drop i).any fun x => b.any fun y => x == y) := by
  intro n
  induction n with
  | zero =>
    intro i hn hi
    refine ⟨1, ?_⟩
    have : i = a.length := by omega
    subst this
    unfold escritoireref15_Clash.l0
    rw [if_neg (by omega), List.drop_length]
    rfl
  | succ n ih =>
    intro i hn hi
    have hil : i < a.length := by omega
    obtain ⟨k, hk⟩ := clash1 a b ha hb i hil _ (ih (i + 1) (by omega) (by omega)) _ 0 rfl (Nat.zero_le _)
    refine ⟨k + 1, ?_⟩
    unfold escritoireref15_Clash.l0
    rw [if_pos (by omega), List.drop_eq_getElem_cons hil, List.any_cons]
    have h := hk
    rw [List.drop_zero] at h
    exact h
theorem RClash_calls {w : World} {A : Option Addr} {c : Nat} {l : List Int} (hr : Kd.C (Kd.int .i64) w A l.length l) (hc : l.length ≤ c) (hl : l.length ≤ 1000) {B : Option Addr} {d : Nat} {t : List Int} (ht : Kd.C (Kd.int .i64) w B t.length t) (hd : t.length ≤ d) (htl : t.length ≤ 1000) :
    Calls Try.prog 21 #[.slice A l.length c, .slice B t.length d] w fun e w' => e = .returned (.bool (clashL l t)) ∧ Below w.heap.size w w' := by
  obtain ⟨k, hk⟩ := clash0 l t hl htl _ 0 rfl (Nat.zero_le _)
  rw [List.drop_zero] at hk
  exact (escritoireref15_Clash.calls k A c l B d t _ w hr hc ht hd hk).mono fun e w' h => ⟨h.1, by obtain ⟨m, rfl⟩ := h.2; exact pw_below_drewN (Below.refl _ _) m⟩
theorem RHas_calls {w : World} {A : Option Addr} {c : Nat} {l : List Int} (hr : Kd.C (Kd.int .i64) w A l.length l) (hc : l.length ≤ c) (hl : l.length ≤ 1000) (x : Int) :
    Calls Try.prog 12 #[.slice A l.length c, .int .i64 x] w fun e w' => e = .returned (.bool (decide (x ∈ l))) ∧ Below w.heap.size w w' := by
  obtain ⟨k, hk⟩ := clash0 l [x] hl (by simp) _ 0 rfl (Nat.zero_le _)
  rw [List.drop_zero] at hk
  have hf : escritoireref15_Has.f k l x = some (decide (x ∈ l)) := by
    unfold escritoireref15_Has.f escritoireref15_Clash.f
    rw [show ((0 : Int)) = ((0 : Nat) : Int) from rfl, hk]
    simp [Option.bind, List.any_eq]
  exact escritoireref15_Has.calls k A c l x _ w hr hc hf
/-! Two that take their files. -/
theorem get_putsL (me : Int) (l : List Int) (k : Int) : ∀ m : List (Int × Int), get (putsL me m l) k = if k ∈ l then some me else get m k := by
  induction l with
  | nil => intro m; rfl
  | cons x r ih =>
    intro m
    show get (putsL me (put m x me) r) k = _
    rw [ih, get_put]
    by_cases h : k ∈ r
    · simp [h]
    · by_cases hx : k = x <;> simp [h, hx]
theorem free_nil (me : Int) (l : List Int) : freeL [] me l = true := by
  unfold freeL
  simp [heldBy, get_nil]
theorem clash_iff (a b : List Int) : clashL a b = true ↔ ∃ x, x ∈ a ∧ x ∈ b := by
  unfold clashL
  simp [List.any_eq_true]
theorem clash_comm (a b : List Int) : clashL a b = clashL b a := by
  rw [Bool.eq_iff_iff, clash_iff, clash_iff]
  constructor <;> rintro ⟨x, h1, h2⟩ <;> exact ⟨x, h2, h1⟩
theorem free_two (a b : List Int) : freeL (putsL 1 [] a) 2 b = !clashL a b := by
  have h : b.any (heldBy (putsL 1 [] a) 2) = clashL a b := by
    rw [Bool.eq_iff_iff, clash_iff, List.any_eq_true]
    constructor
    · rintro ⟨x, hx, h⟩
      refine ⟨x, ?_, hx⟩
      unfold heldBy at h
      rw [get_putsL] at h
      by_cases hxa : x ∈ a
      · exact hxa
      · simp [hxa, get_nil] at h
    · rintro ⟨x, h1, h2⟩
      refine ⟨x, h2, ?_⟩
      unfold heldBy
      rw [get_putsL]
      simp [h1]
  unfold freeL
  rw [h]
theorem mem_of_get {α : Type} {m : List (Int × α)} {k : Int} {v : α} (h : get m k = some v) : (k, v) ∈ m := by
  induction m with
  | nil => rw [get_nil] at h; cases h
  | cons y r ih =>
    rw [get_cons] at h
    split at h
    · rename_i e
      obtain rfl := Option.some.inj h
      rw [← e]
      exact List.mem_cons_self ..
    · exact List.mem_cons_of_mem _ (ih h)
theorem puts_vals {me : Int} {l : List Int} {m : List (Int × Int)} (hs : Sorted m) {y : Int × Int} (h : y ∈ putsL me m l) : y.2 = me ∨ get m y.1 = some y.2 := by
  have hg := get_of_mem (putsL_sorted me l m hs) (k := y.1) (v := y.2) h
  rw [get_putsL] at hg
  split at hg
  · exact Or.inl (Option.some.inj hg).symm
  · exact Or.inr hg
theorem back_nil (a b : List Int) : dropL (dropL (takeL (putsL 1 [] a) 2 b) 2) 1 = [] := by
  unfold dropL
  rw [List.filter_filter]
  refine List.filter_eq_nil_iff.2 fun y hy => ?_
  have h1 : ∀ y ∈ putsL 1 [] a, y.2 = 1 := fun y hy => (puts_vals List.Pairwise.nil hy).elim id (fun h => by rw [get_nil] at h; cases h)
  unfold takeL at hy
  split at hy
  · rcases puts_vals (putsL_sorted 1 a [] List.Pairwise.nil) hy with h | h
    · simp [h]
    · have := h1 (y.1, y.2) (mem_of_get h)
      simp at this
      simp [this]
  · simp [h1 y hy]
theorem Take_as {w : World} {v : Value} {m : List (Int × Int)} (h : MvI w v m) (hml : m.length ≤ 1000) {A : Option Addr} {c : Nat} {l : List Int} (hr : Kd.C (Kd.int .i64) w A l.length l) (hl : l.length ≤ 1000) (hi : ∀ k ∈ l, okn k) (me : Int) (hme : okn me) {q : Bool} {m' : List (Int × Int)} (hf : freeL m me l = q) (hm : takeL m me l = m') :
    Calls Try.prog 16 #[v, .slice A l.length c, .int .i64 me] w fun e w' => ∃ b, e = .returned (.tuple #[.map (some b), .bool q]) ∧ w.heap.size ≤ b ∧ IsM ekI 3 w' b m' ∧ Below w.heap.size w w' := by
  subst hf; subst hm
  exact Take_calls h hml hr hl hi me hme
theorem Drop_as {w : World} {v : Value} {m : List (Int × Int)} (h : MvI w v m) (hml : m.length ≤ 1000) (me : Int) {m' : List (Int × Int)} (hm : dropL m me = m') :
    Calls Try.prog 19 #[v, .int .i64 me] w fun e w' => ∃ b, e = .returned (.map (some b)) ∧ w.heap.size ≤ b ∧ IsM ekI 3 w' b m' ∧ Below w.heap.size w w' := by
  subst hm
  exact Drop_calls h hml me
theorem Clash_as {w : World} {A : Option Addr} {c : Nat} {l : List Int} (hr : Kd.C (Kd.int .i64) w A l.length l) (hl : l.length ≤ 1000) (hi : ∀ k ∈ l, okn k) {B : Option Addr} {d : Nat} {t : List Int} (ht : Kd.C (Kd.int .i64) w B t.length t) (htl : t.length ≤ 1000) {q : Bool} (hq : clashL l t = q) :
    Calls Try.prog 22 #[.slice A l.length c, .slice B t.length d] w fun e w' => e = .returned (.bool q) ∧ Below w.heap.size w w' := by
  subst hq
  exact Clash_calls hr hl hi ht htl
theorem RClash_as {w : World} {A : Option Addr} {c : Nat} {l : List Int} (hr : Kd.C (Kd.int .i64) w A l.length l) (hc : l.length ≤ c) (hl : l.length ≤ 1000) {B : Option Addr} {d : Nat} {t : List Int} (ht : Kd.C (Kd.int .i64) w B t.length t) (hd : t.length ≤ d) (htl : t.length ≤ 1000) {q : Bool} (hq : clashL l t = q) :
    Calls Try.prog 21 #[.slice A l.length c, .slice B t.length d] w fun e w' => e = .returned (.bool q) ∧ Below w.heap.size w w' := by
  subst hq
  exact RClash_calls hr hc hl ht hd htl
theorem dropL_len (m : List (Int × Int)) (me : Int) : (dropL m me).length ≤ m.length := List.length_filter_le _ _
theorem clash_pack (a b : List Int) (ha : a.length ≤ 60) (hb : b.length ≤ 60) {q : Bool} (hq : clashL a b = q) : ∃ m1 m2 m3 : List (Int × Int), freeL [] 1 a = true ∧ takeL [] 1 a = m1 ∧ m1.length ≤ 1000 ∧ freeL m1 2 b = !q ∧ takeL m1 2 b = m2 ∧ m2.length ≤ 1000 ∧ dropL m2 2 = m3 ∧ m3.length ≤ 1000 ∧ dropL m3 1 = [] ∧ clashL b a = q := by
  have h1 := takeL_len [] 1 a
  have h2 := takeL_len (takeL [] 1 a) 2 b
  have h3 := dropL_len (takeL (takeL [] 1 a) 2 b) 2
  have h0 : takeL [] 1 a = putsL 1 [] a := by unfold takeL; rw [if_pos (free_nil 1 a)]
  rw [List.length_nil] at h1
  refine ⟨_, _, _, free_nil 1 a, rfl, by omega, ?_, rfl, by omega, rfl, by omega, ?_, by rw [clash_comm]; exact hq⟩
  · rw [h0, free_two, hq]
  · rw [h0]; exact back_nil a b
end Go.Proofs.Ytoakfmdfajpejaa.Sets
