/- WordsTexts in plain Lean. -/
import Derived.Test.YtkjmhijgjllnbaaPureUntexts
namespace Go.Proofs.Ytkjmhijgjllnbaa.Pure
open Go.RowKit Go.Proofs.Ytkjmhijgjllnbaa.Print Go.Proofs.YtkjmhijgjllnbaaW.PrintWords Go.Proofs.YtkjmhijgjllnbaaW.PrintLast Go.Proofs.YtkjmhijgjllnbaaW.PrintMore

theorem refhash_l_ev (s : ByteArray) (hs : s.size ≤ 140737488351232) : ∀ (d i : Nat) (h : Int), i + d = s.size → Ev (fun k => escritoireref01_Hash.l0 k s h (i : Int)) (hashFrom h ((bytesOf s).drop i)) := by
  intro d
  induction d with
  | zero =>
    intro i h hi
    rw [List.drop_of_length_le (by rw [bytesOf_length]; omega)]
    exact Ev.step (fun k => by rw [escritoireref01_Hash.l0, if_neg (by omega)]; rfl) (Ev.now _)
  | succ d ih =>
    intro i h hi
    have hl : i < (bytesOf s).length := by rw [bytesOf_length]; omega
    rw [List.drop_eq_getElem_cons hl]
    have h1 := ih (i + 1) (hashStep h (bytesOf s)[i]) (by omega)
    refine Ev.step (fun k => ?_) h1
    rw [escritoireref01_Hash.l0, if_pos (by omega), if_pos (by omega), wrap_id (by omega) (by omega), ← rd_bytesOf, rd_nat _ _ hl]
    rfl
theorem refHash_ev (s : ByteArray) (hs : s.size ≤ 140737488351232) : Ev (fun k => escritoireref01_Hash.f k s) (hashFrom 14695981039346656037 (bytesOf s)) := refhash_l_ev s hs s.size 0 _ (by omega)
/-- The law, once each part is known. -/
theorem texts_core (s : ByteArray) (n : Int) (l2 : List Int) (A : List Int) (e : Int) (u : ByteArray) (g h : Int) (h1 : words_Text.f s n = some (A, e)) (h2 : Ev (fun k => escritoireref01_Text.f k s n) (A, e)) (h3 : Ev (fun k => words_Untext.f k l2 n) (u, g)) (h4 : Ev (fun k => escritoireref01_Untext.f k l2 n) (u, g))
    (hA : A.length ≤ 140737488351232) (h5 : words_Hash.f s = some h) (h6 : Ev (fun k => escritoireref01_Hash.f k s) h) : Ev (fun k => escritoirelaw01_WordsTexts.f k s n l2) true := by
  unfold escritoirelaw01_WordsTexts.f
  rw [lives_eq, h1, h5]
  simp only [Option.bind_some, if_true]
  refine Ev.bind h2 (Ev.bind h3 (Ev.bind h4 (Ev.bind (same_ev A hA) ?_)))
  simp only [if_true]
  refine Ev.bind h6 ?_
  rw [beq_self_eq_true]
  exact Ev.now _
theorem WordsTexts : escritoirelaw01_WordsTexts.Pure := by
  intro s n l2 hs hn hl
  have hn' := wf64 hn
  obtain ⟨c, rfl, hc⟩ := nat_list l2 hl.2.2
  have hcl : c.length * 8 ≤ 140737488351232 := by have := hl.2.1; rwa [ints_length] at this
  have h5 : words_Hash.f s = some (hashFrom 14695981039346656037 (bytesOf s)) := by unfold words_Hash.f; rw [if_pos (by omega)]
  have h6 := refHash_ev s hs
  obtain ⟨A, e, h1, h2, hA⟩ : ∃ A e, words_Text.f s n = some (A, e) ∧ Ev (fun k => escritoireref01_Text.f k s n) (A, e) ∧ A.length ≤ 140737488351232 := by
    by_cases c1 : n < 0 ∨ n > 64
    · exact ⟨_, _, Text_no1 s n c1, refText_no1 s n c1, by simp⟩
    · by_cases c2 : (s.size : Int) > 8 * n
      · exact ⟨_, _, Text_no2 s n c1 c2, refText_no2 s n c1 c2, by simp⟩
      · obtain ⟨m, rfl⟩ := Int.eq_ofNat_of_zero_le (show 0 ≤ n by omega)
        exact ⟨_, _, Text_yes s m (by omega) (by omega), refText_yes s m (by omega) (by omega), by rw [ints_length, wordsOf_length]; omega⟩
  obtain ⟨u, g, h3, h4⟩ : ∃ u g, Ev (fun k => words_Untext.f k (ints c) n) (u, g) ∧ Ev (fun k => escritoireref01_Untext.f k (ints c) n) (u, g) := by
    by_cases c1 : n < 0 ∨ n > 8 * (c.length : Int)
    · exact ⟨_, _, Untext_no c n (by omega) c1, refUntext_no c n (by omega) c1⟩
    · obtain ⟨m, rfl⟩ := Int.eq_ofNat_of_zero_le (show 0 ≤ n by omega)
      exact ⟨_, _, Untext_yes c hc m (by omega) (by omega) (by omega), refUntext_yes c hc m (by omega) (by omega) (by omega)⟩
  exact (texts_core s n (ints c) A e u g _ h1 h2 h3 h4 hA h5 h6).rounds
end Go.Proofs.Ytkjmhijgjllnbaa.Pure
