/- Texts: strings.Split at a stroke. -/
import Derived.Test.YtmbpaienbmbhfaaDoorStrA
namespace Go.Proofs.YtmbpaienbmbhfaaDoor.Str
open Go Go.Shelf Go.RowKit Go.Proofs.YtmbpaienbmbhfaaDoor.Print Go.Proofs.YtmbpaienbmbhfaaDoorW.PrintWords Go.Proofs.YtmbpaienbmbhfaaDoorW.PrintLast Go.Proofs.YtmbpaienbmbhfaaDoorW.PrintMore
set_option linter.unusedVariables false
set_option linter.unusedSimpArgs false
theorem R_form {α : Type} {d : Kd α} {e base : Nat} {ok : Nat → Prop} {w : World} {v : Value} {xs : List α} (h : Kd.R d e w base ok v xs) (hx : 0 < xs.length) : ∃ g cap, v = .slice (some ⟨g, 0, none⟩) xs.length cap ∧ xs.length ≤ cap := by
  obtain ⟨hok, inner, hown, hr⟩ := h
  rcases hown.2 with ⟨_, h1⟩ | ⟨g', cap', cur, h1, h2, h3, h4, h5, h6, h7⟩
  · omega
  · exact ⟨g', cap', h1, h4⟩
theorem R_block {e base : Nat} {ok : Nat → Prop} {w : World} {g n cap : Nat} {xs : List ByteArray} (h : Kd.R Kd.string e w base ok (.slice (some ⟨g, 0, none⟩) n cap) xs) : ∃ cur, w.heap[g]? = some (.cells cur e (0, 0)) ∧ n ≤ cur.size ∧ base ≤ g := by
  obtain ⟨hok, inner, hown, hr⟩ := h
  rcases hown.2 with ⟨h1, _⟩ | ⟨g', cap', cur, h1, h2, h3, h4, h5, h6, h7⟩
  · cases h1
  · injection h1 with e1 e2 e3
    injection e1 with e1
    injection e1 with e1 _ _
    subst e1; subst e2; subst e3
    exact ⟨cur, h3, by rw [h6]; show _ ≤ cap * 1; omega, h2⟩
theorem splitB_cut {t : ByteArray} (h : (47 : UInt8) ∈ t.data.toList) : ∃ m : Nat, Lib.indexByte t.data.toList 47 = (m : Int) ∧ m < t.size ∧ splitB t = t.extract 0 m :: splitB (t.extract (m + 1) t.size) := by
  obtain ⟨m, h1, h2, h3⟩ := splitL_cut h
  have hsz : t.data.toList.length = t.size := by rw [Array.length_toList]; rfl
  refine ⟨m, h1, by omega, ?_⟩
  unfold splitB
  rw [h3, List.map_cons, ext_take, ext_drop t (m + 1) (by omega)]
  rfl
theorem splitB_one {t : ByteArray} (h : (47 : UInt8) ∉ t.data.toList) : splitB t = [t] := by
  unfold splitB
  rw [splitL_one h, List.map_cons, mk_data]
  rfl
theorem splitB_len (t : ByteArray) : (splitB t).length = Lib.countByte t.data.toList 47 + 1 := by
  unfold splitB Lib.countByte
  rw [List.length_map, splitL_len]
theorem splitB_le (t : ByteArray) : (splitB t).length ≤ t.size + 1 := by
  rw [splitB_len]
  have := List.count_le_length (a := (47 : UInt8)) (l := t.data.toList)
  have hsz : t.data.toList.length = t.size := by rw [Array.length_toList]; rfl
  unfold Lib.countByte
  omega
theorem set_next {α : Type} (d : List α) (n : Nat) (e x : α) (h : d.length < n) : (d ++ List.replicate (n - d.length) e).set d.length x = (d ++ [x]) ++ List.replicate (n - (d.length + 1)) e := by
  rw [List.set_append_right _ _ (Nat.le_refl _), Nat.sub_self]
  obtain ⟨k, hk⟩ : ∃ k, n - d.length = k + 1 := ⟨n - d.length - 1, by omega⟩
  rw [hk, List.replicate_succ, List.set_cons_zero, show n - (d.length + 1) = k by omega]
  simp
theorem Index_as (s : ByteArray) (w : World) {i : Int} (h : Lib.indexByte s.data.toList 47 = i) : Calls Tryd.prog 44 #[.string s, .string ⟨#[47]⟩] w fun e w' => e = .returned (.int .i64 i) ∧ w' = w := by
  subst h
  exact Index_calls s w
set_option maxHeartbeats 400000 in
theorem genSplit_calls (w : World) (s : ByteArray) (hs : s.size ≤ 1000000) : Calls Tryd.prog 34 #[.string s, .string ⟨#[47]⟩, .int .i64 0, .int .i64 (-1)] w fun e w' => ∃ v, e = .returned v ∧ Kd.R Kd.string 9 w' w.heap.size (fun _ => True) v (splitB s) ∧ Below w.heap.size w w' := by
  have hu := Tryd.underlying23
  obtain ⟨N, hN⟩ : ∃ N, Lib.countByte s.data.toList 47 = N := ⟨_, rfl⟩
  have hlen := splitB_len s
  have hle := splitB_le s
  rw [hN] at hlen
  have HN := Aside0.mk hN
  have HLEN := Aside0.mk hlen
  have hle2 : N ≤ s.size := by omega
  have hmin : min (N : Int) (s.size : Int) = (N : Int) := by omega
  have hmin2 : (if (s.size : Int) < (N : Int) then (s.size : Int) else (N : Int)) = (N : Int) := if_neg (by omega)
  clear hlen hle hN
  go_enter Tryd.func34, Tryd.ntmps34
  go_wp2_with (first
    | (go_at_call 43; refine (Count_calls s _).mono ?_; rintro e w1 ⟨rfl, hw⟩; rw [hw, HN.out]; clear hw w1)
    | ((with_reducible refine gate_dst (N := 31) rfl ?_); refine Kd.R_make Kd.string (w0 := w) w.heap.size 9 rfl (N := 31) rfl 23 (.tmp 30) (.tmp 30) rfl ((N : Int) + 1) rfl rfl Tryd.underlying23 (.string ⟨#[]⟩) 16 info9 rfl (by decide) (by omega) (⟨#[]⟩ : ByteArray) (ok := fun _ => True) (okp := fun _ => True) rfl (fun _ hk => hk) trivial (by omega) (by omega) (Below.refl _ _) (Nat.le_refl _) ?_; intro v31 w2 ho hb hg_ hnew_; rw [show ((N : Int) + 1).toNat = N + 1 by omega] at ho; obtain ⟨g, cap, rfl, hcap⟩ := R_form ho (by simp); rw [List.length_replicate] at ho hcap ⊢; have HO := Aside0.mk ho; have HB := Aside0.mk hb; have HC := Aside0.mk hcap; clear ho hb hg_ hnew_ hcap))
  clear hmin hmin2
  go_loopw [0, 10] (fun v0 v10 wr => ∃ (j : Nat) (t : ByteArray) (done : List ByteArray), v10 = .int .i64 (j : Int) ∧ v0 = .string t ∧ done.length = j ∧ j ≤ N ∧ t.size ≤ s.size ∧ Aside0 (splitB s = done ++ splitB t) ∧ Aside0 (Kd.R Kd.string 9 wr w.heap.size (fun _ => True) (.slice (some ⟨g, 0, none⟩) (N + 1) cap) (done ++ List.replicate (N + 1 - done.length) ⟨#[]⟩)) ∧ Aside0 (Below w.heap.size w wr)) (fun _ v10 _ => N - (intOf v10).toNat)
  case atStart => exact ⟨0, s, [], rfl, rfl, rfl, Nat.zero_le _, Nat.le_refl _, ⟨rfl⟩, ⟨by simpa using HO.out⟩, HB⟩
  case round =>
    clear HO HB
    obtain ⟨j, t, done, rfl, rfl, hdl, hj, hts, HS, HO, HB⟩ := hrel
    obtain ⟨cur, hcur, hnc, hgb⟩ := R_block HO.out
    have GB := Aside0.mk hgb
    have x0 := (blk_cell hcur j).trans (Array.getElem?_eq_getElem (by omega))
    have f0 := blk_frozen hcur j
    have PT := Aside0.mk (show (splitB t).length = N + 1 - j by have h := HLEN.out; rw [HS.out, List.length_append] at h; omega)
    clear hcur hgb
    by_cases hlt : j < N
    · have hmem : (47 : UInt8) ∈ t.data.toList := by
        by_cases h : (47 : UInt8) ∈ t.data.toList
        · exact h
        · have := PT.out; rw [splitB_one h] at this; simp at this; omega
      obtain ⟨m, hm, hmt, hsp⟩ := splitB_cut hmem
      have HX := Aside0.mk hm
      have HP := Aside0.mk hsp
      clear hm hsp hmem
      go_wp2_with (go_at_call 44; refine (Index_as t _ HX.out).mono ?_; rintro e w1 ⟨rfl, hw⟩; rw [hw]; clear hw w1)
      have hp := Kd.R_putg (enc := Value.string) (h1 := fun _ => rfl) HO.out (j : Int) (t.extract 0 m)
      rw [Int.toNat_natCast] at hp
      have HP1 := Aside0.mk hp.1
      have HB1 := Aside0.mk (HB.out.grown hp.2 HB.out.size (fun k hk => by cases hk; exact GB.out))
      clear hp
      go_roundw
      case rel =>
        refine ⟨j + 1, t.extract (m + 1) t.size, done ++ [t.extract 0 m], by go_num, rfl, by simp [hdl], by omega, ?_, ⟨?_⟩, ⟨?_⟩, HB1⟩
        · rw [ByteArray.size_extract]; omega
        · rw [HS.out, HP.out]; simp
        · have h := set_next done (N + 1) (⟨#[]⟩ : ByteArray) (t.extract 0 m) (by omega)
          rw [hdl] at h
          have h1 := HP1.out
          rw [hdl, h] at h1
          rw [List.length_append, List.length_singleton, hdl]
          exact h1
      case measure => simp [intOf]; omega
    · have hjN : j = N := by omega
      have hno : (47 : UInt8) ∉ t.data.toList := by
        intro h
        have := PT.out
        rw [splitB_len] at this
        have hc : 0 < t.data.toList.count 47 := List.count_pos_iff.2 h
        unfold Lib.countByte at this
        omega
      have hp := Kd.R_putg (enc := Value.string) (h1 := fun _ => rfl) HO.out (j : Int) t
      rw [Int.toNat_natCast] at hp
      have hB1 := HB.out.grown hp.2 HB.out.size (fun k hk => by cases hk; exact GB.out)
      have hrow : (done ++ List.replicate (N + 1 - done.length) (⟨#[]⟩ : ByteArray)).set j t = splitB s := by
        have h := set_next done (N + 1) (⟨#[]⟩ : ByteArray) t (by omega)
        rw [hdl] at h
        rw [hdl, h, HS.out, splitB_one hno, show N + 1 - (j + 1) = 0 by omega]
        simp
      have h1 := hp.1
      rw [hrow] at h1
      have HP1 := Aside0.mk h1
      have HB1 := Aside0.mk hB1
      have hcap2 := HC.out
      clear hp hB1 hrow h1 hno
      subst hjN
      go_wp2
      go_ret
      exact ⟨_, rfl, HP1.out, HB1.out⟩
theorem Split_calls (w : World) (s : ByteArray) (hs : s.size ≤ 1000000) : Calls Tryd.prog 24 #[.string s, .string ⟨#[47]⟩] w fun e w' => ∃ v, e = .returned v ∧ Kd.R Kd.string 9 w' w.heap.size (fun _ => True) v (splitB s) ∧ Below w.heap.size w w' := by
  go_enter Tryd.func24, Tryd.ntmps24
  go_wp2_with (go_at_call 34; refine (genSplit_calls _ s hs).mono ?_; rintro e w1 ⟨v, rfl, ho, hb⟩; have HO := Aside0.mk ho; have HB := Aside0.mk hb; clear ho hb)
  go_ret
  exact ⟨_, rfl, HO.out, HB.out⟩
end Go.Proofs.YtmbpaienbmbhfaaDoor.Str
