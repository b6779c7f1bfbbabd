/- Words' bytes, in plain Lean. -/
import Derived.Test.YtkjmhijgjllnbaaPureTexts
namespace Go.Proofs.Ytkjmhijgjllnbaa.Pure
open Go.RowKit Go.Proofs.Ytkjmhijgjllnbaa.Print Go.Proofs.YtkjmhijgjllnbaaW.PrintWords Go.Proofs.YtkjmhijgjllnbaaW.PrintLast Go.Proofs.YtkjmhijgjllnbaaW.PrintMore

/-- Byte i of words. -/
def byteAt (l : List Nat) (i : Nat) : Nat := ((l.getD (i / 8) 0) >>> (8 * (i % 8))) % 256
def bytesN (l : List Nat) (n : Nat) : List Nat := (List.range n).map (byteAt l)
theorem bytesN_length (l : List Nat) (n : Nat) : (bytesN l n).length = n := by simp [bytesN]
theorem bytesN_succ (l : List Nat) (n : Nat) : bytesN l (n + 1) = bytesN l n ++ [byteAt l n] := by simp [bytesN, List.range_succ]
theorem nat_list (l : List Int) (h : ∀ x ∈ l, (Lit.int .u64 x).wf = true) : ∃ c : List Nat, l = ints c ∧ ∀ x ∈ c, x < 2 ^ 64 := by
  induction l with
  | nil => exact ⟨[], rfl, fun x hx => by simp at hx⟩
  | cons a r ih =>
    obtain ⟨c, h1, h2⟩ := ih (fun x hx => h x (List.mem_cons_of_mem _ hx))
    obtain ⟨n, h3, h4⟩ := wfu64 (h a (List.mem_cons_self ..))
    refine ⟨n :: c, by rw [h1, h3]; rfl, fun x hx => ?_⟩
    rcases List.mem_cons.1 hx with rfl | hx
    · exact h4
    · exact h2 x hx
theorem getD_lt (c : List Nat) (h : ∀ x ∈ c, x < 2 ^ 64) (j : Nat) : c.getD j 0 < 2 ^ 64 := by
  rw [List.getD_eq_getElem?_getD]
  cases e : c[j]? with
  | none => exact Nat.two_pow_pos 64
  | some x => exact h x (List.mem_of_getElem? e)
theorem set_next (xs : List Int) (d : Nat) (z : Int) : (xs ++ List.replicate (d + 1) 0).set xs.length z = xs ++ [z] ++ List.replicate d 0 := by
  rw [List.set_append_right _ _ (Nat.le_refl _), Nat.sub_self, List.replicate_succ, List.set_cons_zero, List.append_assoc]
  rfl
theorem untext_step (k : Nat) (c : List Nat) (x6 : List Int) (n i w : Nat) (hi : i < n) (hn : n < 140737488351233) (hl : x6.length = n) (hj : i / 8 < c.length) (hw : c[i / 8] = w) (_ : w < 2 ^ 64) :
    words_Untext.l0 (k + 1) (ints c) x6 (n : Int) (i : Int) = words_Untext.l0 k (ints c) (x6.set i (((w >>> (8 * (i % 8))) % 256 : Nat) : Int)) (n : Int) ((i + 1 : Nat) : Int) := by
  have e1 : wrap64 (Int.tdiv (i : Int) 8) = ((i / 8 : Nat) : Int) := by rw [Int.tdiv_eq_ediv_of_nonneg (by omega), wrap_id (by omega) (by omega)]; omega
  have e2 : wrap64 (8 * Int.tmod (i : Int) 8) = ((8 * (i % 8) : Nat) : Int) := by rw [Int.tmod_eq_emod_of_nonneg (by omega), wrap_id (by omega) (by omega)]; omega
  have e3 : wrap64 ((i : Int) + 1) = ((i + 1 : Nat) : Int) := by rw [wrap_id (by omega) (by omega)]; omega
  have e4 : ((w >>> (8 * (i % 8)) : Nat) : Int) % 256 = (((w >>> (8 * (i % 8))) % 256 : Nat) : Int) := by rw [Int.natCast_emod, Int.cast_ofNat_Int]
  rw [words_Untext.l0, e1, e2, e3, if_pos (by omega), if_pos (by omega), if_pos (by rw [ints_length]; omega), if_pos (by omega), if_pos (by omega), if_pos (by omega), rd_ints _ _ hj, hw, shrn _ _ (by omega), e4, Int.toNat_natCast]
theorem byte_at {c : List Nat} {i : Nat} (h : i / 8 < c.length) : byteAt c i = (c[i / 8] >>> (8 * (i % 8))) % 256 := by
  unfold byteAt
  rw [List.getD_eq_getElem?_getD, List.getElem?_eq_getElem h, Option.getD_some]
theorem untext_l_ev (c : List Nat) (hc : ∀ x ∈ c, x < 2 ^ 64) (n : Nat) (hn : n ≤ 8 * c.length) (hn2 : n < 140737488351233) : ∀ (d i : Nat), i + d = n →
    Ev (fun k => words_Untext.l0 k (ints c) (ints (bytesN c i) ++ List.replicate d 0) (n : Int) (i : Int)) (strOfNums (ints (bytesN c n)), 0) := by
  intro d
  induction d with
  | zero =>
    intro i hi
    rw [show i = n by omega, List.replicate_zero, List.append_nil]
    exact Ev.step (fun k => by rw [words_Untext.l0, if_neg (by omega)]) (Ev.now _)
  | succ d ih =>
    intro i hi
    have hj : i / 8 < c.length := by omega
    have hxl : (ints (bytesN c i)).length = i := by rw [ints_length, bytesN_length]
    have h0 := fun k => untext_step k c (ints (bytesN c i) ++ List.replicate (d + 1) 0) n i c[i / 8] (by omega) hn2 (by rw [List.length_append, hxl, List.length_replicate]; omega) hj rfl (hc _ (List.getElem_mem hj))
    have h1 := ih (i + 1) (by omega)
    have e : (ints (bytesN c i) ++ List.replicate (d + 1) 0).set i (((c[i / 8] >>> (8 * (i % 8))) % 256 : Nat) : Int) = ints (bytesN c (i + 1)) ++ List.replicate d 0 := by
      have := set_next (ints (bytesN c i)) d (((c[i / 8] >>> (8 * (i % 8))) % 256 : Nat) : Int)
      rw [hxl] at this
      rw [this, bytesN_succ, byte_at hj]
      unfold ints
      rw [List.map_append]
      rfl
    rw [e] at h0
    exact Ev.step h0 h1
theorem Untext_yes (c : List Nat) (hc : ∀ x ∈ c, x < 2 ^ 64) (n : Nat) (hn : n ≤ 8 * c.length) (hl : c.length < 1000000000000000) (hn2 : n < 140737488351233) : Ev (fun k => words_Untext.f k (ints c) (n : Int)) (strOfNums (ints (bytesN c n)), 0) := by
  have h := untext_l_ev c hc n hn hn2 n 0 (by omega)
  have h1 : Ev (fun k => words_Untext.j0 k (ints c) (n : Int) false) (strOfNums (ints (bytesN c n)), 0) := by
    refine Ev.step (fun k => ?_) h
    rw [words_Untext.j0, if_neg (by decide), if_pos (by omega), if_pos (by omega), Int.toNat_natCast, Option.bind_some, List.length_replicate]
    rfl
  refine Ev.congr (fun k => ?_) h1
  unfold words_Untext.f
  rw [if_neg (by omega), ints_length, wrap_id (by omega) (by omega), decide_eq_false (by omega)]
theorem Untext_no (c : List Nat) (n : Int) (hl : c.length < 1000000000000000) (hn : n < 0 ∨ n > 8 * (c.length : Int)) : Ev (fun k => words_Untext.f k (ints c) n) ((⟨#[]⟩ : ByteArray), 1) := by
  have h1 : Ev (fun k => words_Untext.j0 k (ints c) n true) ((⟨#[]⟩ : ByteArray), 1) := Ev.step (fun k => by rw [words_Untext.j0, if_pos rfl]) (Ev.now _)
  refine Ev.congr (fun k => ?_) h1
  unfold words_Untext.f
  by_cases h : n < 0
  · rw [if_pos h]
  · rw [if_neg h, ints_length, wrap_id (by omega) (by omega), decide_eq_true (by omega)]
theorem refuntext_step (k : Nat) (c : List Nat) (x6 : List Int) (n i w : Nat) (hi : i < n) (hn : n < 140737488351233) (hj : i / 8 < c.length) (hw : c[i / 8] = w) :
    escritoireref01_Untext.l0 (k + 1) (ints c) (n : Int) x6 (i : Int) = (escritoireref01_Get.f k (w : Int) ((8 * (i % 8) : Nat) : Int) ((8 : Nat) : Int)).bind fun bt173 => (if x6.length < 140737488355328 then (escritoireref01_Untext.l0 k (ints c) (n : Int) (x6 ++ [(bt173.1) % 256]) ((i + 1 : Nat) : Int)) else (none)) := by
  have e1 : wrap64 (Int.tdiv (i : Int) 8) = ((i / 8 : Nat) : Int) := by rw [Int.tdiv_eq_ediv_of_nonneg (by omega), wrap_id (by omega) (by omega)]; omega
  have e2 : wrap64 (8 * Int.tmod (i : Int) 8) = ((8 * (i % 8) : Nat) : Int) := by rw [Int.tmod_eq_emod_of_nonneg (by omega), wrap_id (by omega) (by omega)]; omega
  have e3 : wrap64 ((i : Int) + 1) = ((i + 1 : Nat) : Int) := by rw [wrap_id (by omega) (by omega)]; omega
  rw [escritoireref01_Untext.l0, e1, e2, e3, if_pos (by omega), if_pos (by omega), if_pos (by rw [ints_length]; omega), rd_ints _ _ hj, hw, Int.cast_ofNat_Int]
theorem refuntext_l_ev (c : List Nat) (hc : ∀ x ∈ c, x < 2 ^ 64) (n : Nat) (hn : n ≤ 8 * c.length) (hn2 : n < 140737488351233) : ∀ (d i : Nat), i + d = n →
    Ev (fun k => escritoireref01_Untext.l0 k (ints c) (n : Int) (ints (bytesN c i)) (i : Int)) (strOfNums (ints (bytesN c n)), 0) := by
  intro d
  induction d with
  | zero =>
    intro i hi
    rw [show i = n by omega]
    exact Ev.step (fun k => by rw [escritoireref01_Untext.l0, if_neg (by omega)]) (Ev.now _)
  | succ d ih =>
    intro i hi
    have hj : i / 8 < c.length := by omega
    have h0 := fun k => refuntext_step k c (ints (bytesN c i)) n i c[i / 8] (by omega) hn2 hj rfl
    have hg := refGet_ev (w := c[i / 8]) (a := 8 * (i % 8)) (b := 8) (hc _ (List.getElem_mem hj)) (okByte (i % 8) (by omega))
    have h1 := ih (i + 1) (by omega)
    have hlen : (ints (bytesN c i)).length < 140737488355328 := by rw [ints_length, bytesN_length]; omega
    have e : ints (bytesN c i) ++ [((getN c[i / 8] (8 * (i % 8)) 8 : Nat) : Int) % 256] = ints (bytesN c (i + 1)) := by
      have e2 : ((getN c[i / 8] (8 * (i % 8)) 8 : Nat) : Int) % 256 = ((byteAt c i : Nat) : Int) := by
        rw [byte_at hj]
        have : getN c[i / 8] (8 * (i % 8)) 8 % 256 = (c[i / 8] >>> (8 * (i % 8))) % 256 := Nat.mod_mod _ _
        rw [← this, Int.natCast_emod, Int.cast_ofNat_Int]
      rw [e2, bytesN_succ]
      unfold ints
      rw [List.map_append]
      rfl
    rw [← e] at h1
    exact Ev.step h0 (Ev.bind hg (Ev.congr (fun k => if_pos hlen) h1))
theorem refUntext_yes (c : List Nat) (hc : ∀ x ∈ c, x < 2 ^ 64) (n : Nat) (hn : n ≤ 8 * c.length) (hl : c.length < 1000000000000000) (hn2 : n < 140737488351233) : Ev (fun k => escritoireref01_Untext.f k (ints c) (n : Int)) (strOfNums (ints (bytesN c n)), 0) := by
  have h := refuntext_l_ev c hc n hn hn2 n 0 (by omega)
  have h1 : Ev (fun k => escritoireref01_Untext.j0 k (ints c) (n : Int) false) (strOfNums (ints (bytesN c n)), 0) :=
    Ev.step (fun k => by rw [escritoireref01_Untext.j0, if_neg (by decide)]; rfl) h
  refine Ev.congr (fun k => ?_) h1
  unfold escritoireref01_Untext.f
  rw [if_neg (by omega), ints_length, wrap_id (by omega) (by omega), decide_eq_false (by omega)]
theorem refUntext_no (c : List Nat) (n : Int) (hl : c.length < 1000000000000000) (hn : n < 0 ∨ n > 8 * (c.length : Int)) : Ev (fun k => escritoireref01_Untext.f k (ints c) n) ((⟨#[]⟩ : ByteArray), 1) := by
  have h1 : Ev (fun k => escritoireref01_Untext.j0 k (ints c) n true) ((⟨#[]⟩ : ByteArray), 1) := Ev.step (fun k => by rw [escritoireref01_Untext.j0, if_pos rfl]) (Ev.now _)
  refine Ev.congr (fun k => ?_) h1
  unfold escritoireref01_Untext.f
  by_cases h : n < 0
  · rw [if_pos h]
  · rw [if_neg h, ints_length, wrap_id (by omega) (by omega), decide_eq_true (by omega)]
end Go.Proofs.Ytkjmhijgjllnbaa.Pure
