/- WordsTextBack in plain Lean: there and back. -/
import Derived.Test.YtkjmhijgjllnbaaPureUntexts
namespace Go.Proofs.Ytkjmhijgjllnbaa.Pure
open Go.RowKit Go.Proofs.Ytkjmhijgjllnbaa.Print Go.Proofs.YtkjmhijgjllnbaaW.PrintWords Go.Proofs.YtkjmhijgjllnbaaW.PrintLast Go.Proofs.YtkjmhijgjllnbaaW.PrintMore

theorem shr256 (x r : Nat) : x >>> (8 * r) = x / 256 ^ r := by rw [Nat.shiftRight_eq_div_pow, p256]
/-- A text's words have its bytes. -/
theorem byte_of_word (b : List Nat) (hb : ∀ x ∈ b, x < 256) (n i : Nat) (hi : i < 8 * n) : byteAt (wordsOf b n b.length) i = b.getD i 0 := by
  have hj : i / 8 < (wordsOf b n b.length).length := by rw [wordsOf_length]; omega
  rw [byte_at hj, wordsOf_at, shr256]
  unfold word
  rw [le_digit _ (piece_lt b hb _ _), List.getD_eq_getElem?_getD, List.getD_eq_getElem?_getD, List.getElem?_take]
  by_cases h : i < b.length
  · rw [if_pos (by omega), List.getElem?_drop, show 8 * (i / 8) + i % 8 = i by omega]
  · rw [List.getElem?_eq_none (l := b) (by omega)]
    by_cases h2 : i % 8 < min 8 (b.length - 8 * (i / 8))
    · omega
    · rw [if_neg h2]
/-- Words are their bytes' words. -/
theorem word_of_bytes (c : List Nat) (hc : ∀ x ∈ c, x < 2 ^ 64) : wordsOf (bytesN c (8 * c.length)) c.length (8 * c.length) = c := by
  apply List.ext_getElem
  · rw [wordsOf_length]
  · intro j h1 h2
    rw [wordsOf_at]
    unfold word
    have e1 : min 8 (8 * c.length - 8 * j) = 8 := by omega
    have e2 : ((bytesN c (8 * c.length)).drop (8 * j)).take 8 = (List.range 8).map fun r => (c[j] / 256 ^ r) % 256 := by
      apply List.ext_getElem
      · simp only [bytesN, List.length_take, List.length_drop, List.length_map, List.length_range]; omega
      · intro r h3 h4
        have hr : r < 8 := by simpa using h4
        rw [List.getElem_take, List.getElem_drop]
        simp only [bytesN, List.getElem_map, List.getElem_range]
        rw [byte_at (show (8 * j + r) / 8 < c.length by omega), ← shr256]
        have q1 : (8 * j + r) / 8 = j := by omega
        have q2 : (8 * j + r) % 8 = r := by omega
        simp only [q1, q2]
    rw [e1, e2, le_of_digits, show (256 : Nat) ^ 8 = 2 ^ 64 from by decide]
    exact Nat.mod_eq_of_lt (hc _ (List.getElem_mem h2))
theorem bytesN_lt (c : List Nat) (n : Nat) : ∀ x ∈ bytesN c n, x < 256 := by
  intro x hx
  obtain ⟨i, _, rfl⟩ := List.mem_map.1 hx
  exact Nat.mod_lt _ (by decide)
theorem nb_str (l : List Nat) (h : ∀ x ∈ l, x < 256) : nb (strOfNums (ints l)) = l := by
  unfold nb
  rw [strOfNums_data]
  unfold ints
  rw [List.map_map, List.map_map]
  conv => rhs; rw [← List.map_id l]
  apply List.map_congr_left
  intro x hx
  have := h x hx
  simp only [Function.comp, Int.toNat_natCast, id]
  rw [UInt8.toNat_ofNat']
  omega
theorem str_size (l : List Nat) : (strOfNums (ints l)).size = l.length := by rw [strOfNums_size, ints_length]
/-- The law's two ends. -/
theorem back_end (y : List Int) (u : ByteArray) (h1 : Ev (fun k => words_Untext.f k y (8 * (y.length : Int))) (u, 0)) (h2 : words_Text.f u (y.length : Int) = some (y, 0)) (hl : y.length ≤ 64) :
    Ev (fun k => (words_Untext.f k y (wrap64 (8 * (y.length : Int)))).bind fun bt218 => ((words_Text.f bt218.1 (y.length : Int)).bind fun bt220 => (if bt218.2 = 0 then (if bt220.2 = 0 then ((escritoireref01_Same.f k bt220.1 y).bind fun t224 => (some t224)) else (some false)) else (some false)))) true := by
  rw [wrap_id (by omega) (by omega)]
  refine Ev.bind h1 ?_
  simp only [h2, Option.bind_some, if_true]
  exact Ev.bind (same_ev y (by omega)) (Ev.now _)
theorem tail_ev (l2 : List Int) (hw : ∀ x ∈ l2, (Lit.int .u64 x).wf = true) : ∃ y : List Int, y = l2.take (min l2.length 64) ∧ y.length ≤ 64 ∧ Ev (fun k => (words_Untext.f k y (wrap64 (8 * (y.length : Int)))).bind fun bt218 => ((words_Text.f bt218.1 (y.length : Int)).bind fun bt220 => (if bt218.2 = 0 then (if bt220.2 = 0 then ((escritoireref01_Same.f k bt220.1 y).bind fun t224 => (some t224)) else (some false)) else (some false)))) true := by
  obtain ⟨c, hc, hc2⟩ := nat_list (l2.take (min l2.length 64)) (fun x hx => hw x (List.mem_of_mem_take hx))
  have hl : c.length ≤ 64 := by
    have := congrArg List.length hc
    rw [ints_length, List.length_take] at this
    omega
  refine ⟨_, rfl, by rw [hc, ints_length]; exact hl, ?_⟩
  have h1 := Untext_yes c hc2 (8 * c.length) (Nat.le_refl _) (by omega) (by omega)
  have h2 := Text_yes (strOfNums (ints (bytesN c (8 * c.length)))) c.length hl (by rw [str_size, bytesN_length]; omega)
  rw [nb_str _ (bytesN_lt c _), str_size, bytesN_length, word_of_bytes c hc2] at h2
  rw [hc]
  refine back_end (ints c) _ ?_ (by rw [ints_length]; exact h2) (by rw [ints_length]; exact hl)
  rw [ints_length, show (8 : Int) * (c.length : Int) = ((8 * c.length : Nat) : Int) by omega]
  exact h1
theorem zeros_ev (l2 : List Int) (hw : ∀ x ∈ l2, (Lit.int .u64 x).wf = true) (t : ByteArray) (ht : t.size ≤ 512) : ∀ (d i : Nat), i + d = t.size → (∀ j, i ≤ j → j < t.size → bt t (j : Int) = 0) → Ev (fun k => escritoirelaw01_WordsTextBack.l0 k l2 t (i : Int)) true := by
  intro d
  induction d with
  | zero =>
    intro i hi hz
    obtain ⟨y, hy, _, h⟩ := tail_ev l2 hw
    have hm : mn (l2.length : Int) 64 = ((min l2.length 64 : Nat) : Int) := by unfold mn; split <;> omega
    refine Ev.step (fun k => ?_) h
    rw [escritoirelaw01_WordsTextBack.l0, if_neg (by omega), hm, if_pos (by omega), if_pos (by omega), Int.toNat_natCast, Option.bind_some, ← hy]
  | succ d ih =>
    intro i hi hz
    refine Ev.step (fun k => ?_) (ih (i + 1) (by omega) (fun j h1 h2 => hz j (by omega) h2))
    rw [escritoirelaw01_WordsTextBack.l0, if_pos (by omega), if_pos (by omega), if_pos (hz i (Nat.le_refl _) (by omega)), wrap_id (by omega) (by omega)]
    rfl
theorem textback_core (s : ByteArray) (n : Nat) (hn : n ≤ 64) (l2 : List Int) (A : List Int) (t : ByteArray) (h1 : words_Text.f s (n : Int) = some (A, 0)) (h2 : Ev (fun k => words_Untext.f k A ((8 * n : Nat) : Int)) (t, 0)) (ht : t.size = 8 * n) (hs : s.size ≤ 8 * n) (he : (t.extract 0 s.size).toList = s.toList) (h3 : Ev (fun k => escritoirelaw01_WordsTextBack.l0 k l2 t (s.size : Int)) true) :
    Ev (fun k => escritoirelaw01_WordsTextBack.f k s (n : Int) l2) true := by
  have hj : Ev (fun k => escritoirelaw01_WordsTextBack.j0 k s l2 t false) true := Ev.step (fun k => by rw [escritoirelaw01_WordsTextBack.j0, if_neg (by decide)]) h3
  have e0 : wrap64 (8 * (n : Int)) = ((8 * n : Nat) : Int) := by rw [wrap_id (by omega) (by omega)]; omega
  have e1 : (t.size : Int) = ((8 * n : Nat) : Int) := by omega
  have e2 : (0 : Int) ≤ (s.size : Int) := by omega
  have e3 : (s.size : Int) ≤ (t.size : Int) := by omega
  have h0 : ∀ k, escritoirelaw01_WordsTextBack.f k s (n : Int) l2 = (words_Untext.f k A ((8 * n : Nat) : Int)).bind fun bt201 => (if bt201.2 = 0 then (if (bt201.1.size : Int) = ((8 * n : Nat) : Int) then (if 0 ≤ (s.size : Int) then (if (s.size : Int) ≤ (bt201.1.size : Int) then (escritoirelaw01_WordsTextBack.j0 k s l2 bt201.1 ((bt201.1.extract 0 ((s.size : Int) : Int).toNat).toList != s.toList)) else (none)) else (none)) else (escritoirelaw01_WordsTextBack.j0 k s l2 bt201.1 true)) else (escritoirelaw01_WordsTextBack.j0 k s l2 bt201.1 true)) := by
    intro k
    unfold escritoirelaw01_WordsTextBack.f
    rw [lives_eq, h1, e0, Option.bind_some, if_pos rfl, Option.bind_some, if_pos rfl]
  refine Ev.congr h0 (Ev.bind h2 (Ev.congr (fun k => ?_) hj))
  rw [if_pos rfl, if_pos e1, if_pos e2, if_pos e3, Int.toNat_natCast, he, bne_self_eq_false]
theorem textback_no (s : ByteArray) (n : Int) (l2 : List Int) (hw : ∀ x ∈ l2, (Lit.int .u64 x).wf = true) (e : Int) (he : e ≠ 0) (h1 : words_Text.f s n = some ([], e)) : Ev (fun k => escritoirelaw01_WordsTextBack.f k s n l2) true := by
  obtain ⟨y, hy, _, h⟩ := tail_ev l2 hw
  have hm : mn (l2.length : Int) 64 = ((min l2.length 64 : Nat) : Int) := by unfold mn; split <;> omega
  refine Ev.congr (fun k => ?_) h
  unfold escritoirelaw01_WordsTextBack.f
  rw [lives_eq, h1, hm, Option.bind_some, if_pos rfl, Option.bind_some, if_neg he, if_pos (by omega), if_pos (by omega), Option.bind_some, Int.toNat_natCast, ← hy]
theorem toList_eq (a b : ByteArray) (h : a.data.toList = b.data.toList) : a.toList = b.toList := by
  have : a = b := by
    cases a; cases b
    simp only [ByteArray.mk.injEq]
    exact Array.toList_inj.1 h
  rw [this]
theorem WordsTextBack : escritoirelaw01_WordsTextBack.Pure := by
  intro s n l2 hs hn hl
  have hn' := wf64 hn
  have hw := hl.2.2
  by_cases c1 : n < 0 ∨ n > 64
  · exact (textback_no s n l2 hw 1 (by decide) (Text_no1 s n c1)).rounds
  · by_cases c2 : (s.size : Int) > 8 * n
    · exact (textback_no s n l2 hw 2 (by decide) (Text_no2 s n c1 c2)).rounds
    · obtain ⟨m, rfl⟩ := Int.eq_ofNat_of_zero_le (show 0 ≤ n by omega)
      have hsm : s.size ≤ 8 * m := by omega
      have hb := nb_lt s
      have hW : ∀ x ∈ wordsOf (nb s) m s.size, x < 2 ^ 64 := fun x hx => by
        obtain ⟨j, _, rfl⟩ := List.mem_map.1 hx
        exact word_lt64 (nb s) hb s.size j
      have h1 := Text_yes s m (by omega) hsm
      have h2 := Untext_yes (wordsOf (nb s) m s.size) hW (8 * m) (by rw [wordsOf_length]; omega) (by rw [wordsOf_length]; omega) (by omega)
      have hat : ∀ i, i < 8 * m → byteAt (wordsOf (nb s) m s.size) i = (nb s).getD i 0 := fun i hi => by
        have := byte_of_word (nb s) hb m i hi
        rwa [nb_length] at this
      obtain ⟨q, hq⟩ : ∃ q, q = bytesN (wordsOf (nb s) m s.size) (8 * m) := ⟨_, rfl⟩
      rw [← hq] at h2
      have hql : q.length = 8 * m := by rw [hq, bytesN_length]
      have hqb : ∀ x ∈ q, x < 256 := by rw [hq]; exact bytesN_lt _ _
      have hqi : ∀ i (h : i < q.length), q[i] = (nb s).getD i 0 := fun i h => by
        subst hq
        simp only [bytesN, List.getElem_map, List.getElem_range]
        exact hat i (by rw [bytesN_length] at h; exact h)
      have ht : (strOfNums (ints q)).size = 8 * m := by rw [str_size, hql]
      refine (textback_core s m (by omega) l2 _ _ h1 h2 ht hsm ?_ ?_).rounds
      · apply toList_eq
        have e1 : (nb ((strOfNums (ints q)).extract 0 s.size)) = nb s := by
          apply List.ext_getElem
          · rw [nb_length, nb_length, ByteArray.size_extract]; omega
          · intro i h3 h4
            have h5 : i < s.size := by rw [nb_length] at h4; exact h4
            have e2 : nb ((strOfNums (ints q)).extract 0 s.size) = (nb (strOfNums (ints q))).take s.size := by
              unfold nb
              rw [ByteArray.data_extract, Array.toList_extract]
              simp [List.map_take, List.extract]
            simp only [e2, nb_str q hqb, List.getElem_take]
            rw [hqi, List.getD_eq_getElem?_getD, List.getElem?_eq_getElem h4]
            rfl
        have e3 : ∀ a b : ByteArray, nb a = nb b → a.data.toList = b.data.toList := fun a b h => by
          unfold nb at h
          exact (List.map_inj_right (fun x y h => UInt8.toNat_inj.1 h)).1 h
        exact e3 _ _ e1
      · refine zeros_ev l2 hw _ (by omega) (8 * m - s.size) s.size (by omega) (fun j h3 h4 => ?_)
        have h5 : j < q.length := by omega
        rw [bt_nat _ j h4]
        have : (nb (strOfNums (ints q)))[j]'(by rw [nb_length]; exact h4) = 0 := by
          have e : (nb (strOfNums (ints q)))[j]? = q[j]? := by rw [nb_str q hqb]
          rw [List.getElem?_eq_getElem (by rw [nb_length]; exact h4), List.getElem?_eq_getElem h5] at e
          rw [Option.some.inj e, hqi, List.getD_eq_getElem?_getD, List.getElem?_eq_none (by rw [nb_length]; exact h3)]
          rfl
        rw [this]
        rfl
end Go.Proofs.Ytkjmhijgjllnbaa.Pure
