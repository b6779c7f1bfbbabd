/- All blocks and all numbers of a new memory can be taken. -/
import Derived.Test.YtpkfdoefpmgfiaaLwA
namespace Go.Proofs.Ytpkfdoefpmgfiaa.Sto
open Go Go.RowKit Go.Proofs.Ytpkfdoefpmgfiaa.ML Go.Proofs.Ytpkfdoefpmgfiaa.Mem Go.Proofs.Ytpkfdoefpmgfiaa.Vw Go.Proofs.Ytpkfdoefpmgfiaa.Print Go.Proofs.YtpkfdoefpmgfiaaW.PrintWords Go.Proofs.YtpkfdoefpmgfiaaW.PrintLast Go.Proofs.YtpkfdoefpmgfiaaW.PrintMore
set_option linter.unusedVariables false
set_option linter.unusedSimpArgs false
theorem count_from (n : Nat) : ∀ m : Nat, ((List.range m).filter fun b => decide (n ≤ b)).length = m - n := by
  intro m
  induction m with
  | zero => simp
  | succ m ih =>
    rw [List.range_succ, List.filter_append, List.length_append, ih]
    by_cases h : n ≤ m <;> simp [h] <;> omega
structure AllB (V : VS) (S : MS) (k : Nat) : Prop where
  fr : ∀ i : Int, V.fresh S i = decide ((k : Int) ≤ i ∧ i < 96)
  us : ∀ j : Int, 0 ≤ j ∧ j < 24 → VS.usedN V S j = false
theorem AllB.new {S : MS} (h : Clean S) : AllB newV S 0 := ⟨fun i => fresh_new h i, fun j hj => used_new h j hj⟩
theorem AllB.step {V : VS} {S : MS} {k : Nat} (h : AllB V S k) (hk : k < 96) (n : Int) (hn : 0 ≤ n) : AllB (VS.take V k n) S (k + 1) := by
  refine ⟨fun i => ?_, fun j hj => by rw [used_take _ _ _ _ _ (by omega) hj]; exact h.us j hj⟩
  rw [fresh_take _ _ _ _ _ (by omega) hn, h.fr, Bool.eq_iff_iff]
  simp
  omega
theorem AllB.free {V : VS} {S : MS} {k : Nat} (h : AllB V S k) : VS.free V S 96 = 96 - k := by
  rw [free_of _ _ (fun b => decide (k ≤ b)) 96 (fun b hb => by rw [h.fr, Bool.eq_iff_iff]; simp; omega), count_from]
theorem fresh_see (V : VS) (S : MS) (i j : Int) : (V.see i).fresh S j = V.fresh S j := rfl
theorem used_see (V : VS) (S : MS) (i j : Int) : VS.usedN (V.see i) S j = VS.usedN V S j := rfl
structure AllN (V : VS) (S : MS) (k : Nat) : Prop where
  fr : ∀ i : Int, V.fresh S i = false
  us : ∀ j : Int, 0 ≤ j ∧ j < 24 → VS.usedN V S j = decide (2 ≤ j ∧ j < (k : Int))
theorem AllB.last {V : VS} {S : MS} (h : AllB V S 96) : AllN V S 2 :=
  ⟨fun i => by rw [h.fr]; exact decide_eq_false (by omega), fun j hj => by rw [h.us j hj]; exact (decide_eq_false (by omega)).symm⟩
theorem AllN.step {V : VS} {S : MS} {k : Nat} (h : AllN V S k) (h2 : 2 ≤ k) (hk : k < 24) (kd : Int) (hkd : kd = 1 ∨ kd = 2 ∨ kd = 3) : AllN ((VS.node V S k kd).see k) S (k + 1) := by
  refine ⟨fun i => by rw [fresh_see, fresh_node _ _ _ _ _ (by omega)]; exact h.fr i, fun j hj => ?_⟩
  rw [used_see, used_node _ _ _ _ _ hkd, h.us j hj, Bool.eq_iff_iff]
  simp
  omega
theorem reads_set (V : VS) (S : MS) (i : Int) (l : List Int) (hl : l.length = 8) : (V.set i l).reads S (8 + 8 * i) 8 = l := by
  refine List.ext_getElem? fun j => ?_
  unfold VS.reads
  rw [List.getElem?_map]
  rcases Nat.lt_or_ge j 8 with h | h
  · rw [List.getElem?_range h, Option.map_some, read_set _ _ _ _ hl, if_pos (by omega), List.getD_eq_getElem?_getD]
    have e : (8 + 8 * i + (j : Int) - (8 + 8 * i)).toNat = j := by omega
    rw [e, List.getElem?_eq_getElem (by omega)]
    rfl
  · rw [List.getElem?_eq_none (by simpa using h), List.getElem?_eq_none (by omega)]
    rfl
theorem read_node (V : VS) (S : MS) (m kd : Int) (hk : kd = 1 ∨ kd = 2 ∨ kd = 3) : ∃ ver, okw ver ∧ ∃ k, cards_Read.f k ((VS.node V S m kd).reads S (8 + 8 * m) 8) = some (kd, 1, 0, ver, -1, -1, -1, -1, -1, -1, 0) := by
  refine ⟨(V.read S (9 + 8 * m) + 1) % 18446744073709551616, by unfold okw; omega, ?_⟩
  unfold VS.node
  rw [reads_set _ _ _ _ rfl]
  exact read_fresh kd _ hk
theorem wtm (n m : Int) (hm : 0 < m) (hm2 : m < 9223372036854775807) : ∃ x : Int, IntKind.i64.wrap (Int.tmod (IntKind.u64.wrap n) m) = x ∧ 0 ≤ x ∧ x < m := by
  have h0 : 0 ≤ IntKind.u64.wrap n := by simp [IntKind.wrap, IntKind.signed, IntKind.bits]; omega
  refine ⟨Int.tmod (IntKind.u64.wrap n) m, ?_, Int.tmod_nonneg _ h0, Int.tmod_lt_of_pos _ hm⟩
  have h1 := Int.tmod_nonneg m h0
  have h2 := Int.tmod_lt_of_pos (IntKind.u64.wrap n) hm
  generalize Int.tmod (IntKind.u64.wrap n) m = y at *
  simp [IntKind.wrap, IntKind.signed, IntKind.bits]
  omega
theorem Free_as {w : World} {q : Vp} {f : Fp} {V : VS} {S : MS} (h : IsView w q f V) (hm : IsMem w f S) (n : Int) (hn : ((VS.free V S 96 : Nat) : Int) = n) :
    Calls Try.prog 15 #[vptr q] w fun e w' => e = .returned (.int .i64 n) ∧ Below w.heap.size w w' := by
  rw [← hn]
  exact Free_calls h hm
set_option maxHeartbeats 4000000 in
set_option maxRecDepth 100000 in
theorem StoreAll_calls (w : World) (n k : Int) : Calls Try.prog 4 #[.int .i64 n, .int .i64 k] w fun e w' => e = .returned (.bool true) ∧ Below w.heap.size w w' := by
  obtain ⟨n', hn', hn0, hn1⟩ := wtm n 24 (by omega) (by omega)
  obtain ⟨k', hk', hk0, hk1⟩ := wtm k 3 (by omega) (by omega)
  go_enter Try.func4, Try.ntmps4
  go_wp2_with (first
    | (go_at_call 7; refine (lives_calls _).mono ?_; rintro e w0 ⟨rfl, hb⟩; have B0 := Aside0.mk hb; clear hb)
    | (go_at_call 9; refine (image_as _).mono ?_; rintro e w1 ⟨A, cap, rfl, hC, hc, hb⟩; have C1 := Aside0.mk hC; have K1 := Aside0.mk hc; have B1 := Aside0.mk (B0.out.trans (hb.mono B0.out.size)); clear hC hc hb)
    | (go_at_call 8; refine (Load_as 2824 img_len C1.out K1.out img_ok).mono ?_; rintro e w2 ⟨f, rfl, f1, f2, f3⟩; have M2 := Aside0.mk (show IsMem w2 f S0 from f1); have B2 := Aside0.mk (B1.out.trans (f3.mono B1.out.size)); clear f1 f2 f3)
    | (go_at_call 10; refine (New_as M2.out S0_len).mono ?_; rintro e w3 ⟨q, rfl, f1, f2, f3, f4, f5⟩; have V3 := Aside0.mk f1; have M3 := Aside0.mk f2; have SP := Aside0.mk f3; have QL := Aside0.mk (fun b hb => Nat.le_trans B2.out.size (f4 b hb)); have B3 := Aside0.mk (B2.out.trans (f5.mono B2.out.size)); clear f1 f2 f3 f4 f5))
  clear C1 K1 M2 B0 B1 B2
  have hkd : 1 + k' = 1 ∨ 1 + k' = 2 ∨ 1 + k' = 3 := by omega
  go_loopw [6] (fun x wr => ∃ (j : Nat) (V : VS), j ≤ 96 ∧ x = .int .i64 (j : Int) ∧ AllB V S0 j ∧ IsView wr q f V ∧ IsMem wr f S0 ∧ Turn [q.bo] w3 wr) (fun x _ => 100 - (intOf x).toNat)
  case atStart => exact ⟨0, newV, by omega, rfl, AllB.new clean_img, V3.out, M3.out, Turn.refl _ _⟩
  case round =>
    obtain ⟨j, V, hj, rfl, ha, hv, hmm, ht⟩ := hrel
    have AA := Aside0.mk ha
    have VV := Aside0.mk hv
    have MM := Aside0.mk hmm
    have TT := Aside0.mk ht
    clear ha hv hmm ht V3 M3
    by_cases hlt : j < 96
    · have g1 : decide ((j : Int) < 96) = true := decide_eq_true (by omega)
      have A2 := Aside0.mk (AA.out.step hlt n' hn0)
      obtain ⟨d, hd⟩ : ∃ d : Int, 95 - (j : Int) = d := ⟨_, rfl⟩
      have q1 : IntKind.i64.wrap (95 - (j : Int)) = d := by rw [← hd]; simp [IntKind.wrap, IntKind.signed, IntKind.bits]; omega
      have HD := Aside0.mk (show (((VS.free (VS.take V j n') S0 96 : Nat)) : Int) = d by rw [A2.out.free]; omega)
      clear hd
      go_wp2_with (first
        | (go_at_call 13; refine (Take_some VV.out MM.out n' (by omega) j hlt (fun i hi => by rw [AA.out.fr]; exact decide_eq_false (by omega)) (by rw [AA.out.fr]; exact decide_eq_true (by omega))).mono ?_; rintro e w4 ⟨rfl, r1, r2⟩; have V4 := Aside0.mk r1; have M4 := Aside0.mk (SP.out.mem1 MM.out r2); have T4 := Aside0.mk (TT.out.trans r2); clear r1 r2)
        | (go_at_call 15; refine (Free_as V4.out M4.out d HD.out).mono ?_; rintro e w5 ⟨rfl, hb⟩; have V5 := Aside0.mk (V4.out.below hb); have M5 := Aside0.mk (M4.out.below hb); have T5 := Aside0.mk (T4.out.trans (Turn.of_below hb _)); clear hb))
      go_roundw
      case rel => exact ⟨j + 1, _, by omega, by go_num, A2.out, V5.out, M5.out, T5.out⟩
      case measure => simp [intOf]; omega
    · have g1 : decide ((j : Int) < 96) = false := decide_eq_false (by omega)
      have V6 := Aside0.mk VV.out
      have M6 := Aside0.mk MM.out
      have A6 := Aside0.mk (show AllB V S0 96 from (show j = 96 by omega) ▸ AA.out).last
      have T6 := Aside0.mk (TT.out.mono (L' := [q.bo, q.bs, q.bm]) (fun x hx => .inl (by simp at hx; simp [hx])))
      clear VV MM AA TT hlt hj
      go_wp2
      go_loopw [9] (fun x wr => ∃ (m : Nat) (V : VS), 2 ≤ m ∧ m ≤ 24 ∧ x = .int .i64 (m : Int) ∧ AllN V S0 m ∧ IsView wr q f V ∧ IsMem wr f S0 ∧ Turn [q.bo, q.bs, q.bm] w3 wr) (fun x _ => 100 - (intOf x).toNat)
      case atStart => exact ⟨2, _, by omega, by omega, rfl, A6.out, V6.out, M6.out, T6.out⟩
      case round =>
        obtain ⟨m, W, hm2, hm, rfl, ha, hv, hmm, ht⟩ := hrel
        have AA := Aside0.mk ha
        have VV := Aside0.mk hv
        have MM := Aside0.mk hmm
        have TT := Aside0.mk ht
        clear ha hv hmm ht V6 M6 A6 T6
        by_cases hlt : m < 24
        · have g1 : decide ((m : Int) < 24) = true := decide_eq_true (by omega)
          have A2 := Aside0.mk (AA.out.step hm2 hlt (1 + k') hkd)
          obtain ⟨ver, hver, hrd⟩ := read_node W S0 m (1 + k') hkd
          have HR := Aside0.mk hrd
          clear hrd hver
          go_wp2_with (first
            | (go_at_call 12; refine (Node_some VV.out MM.out (1 + k') hkd m (by omega) (fun i h2 hi => by rw [AA.out.us _ (by omega)]; exact decide_eq_true (by omega)) (by rw [AA.out.us _ (by omega)]; exact decide_eq_false (by omega))).mono ?_; rintro e w4 ⟨rfl, r1, r2⟩; have V4 := Aside0.mk r1; have M4 := Aside0.mk (SP.out.mem3 MM.out r2); have T4 := Aside0.mk (TT.out.trans r2); clear r1 r2)
            | (go_at_call 16; refine (Card_as V4.out M4.out m (by omega) (freshC (1 + k') ver) 0 HR.out (fun b hb => (SP.out b hb).2.2.1)).mono ?_; rintro e w5 ⟨rfl, r1, r2⟩; have V5 := Aside0.mk r1; have M5 := Aside0.mk (SP.out.mem2 M4.out r2); have T5 := Aside0.mk (T4.out.trans (r2.mono (L' := [q.bo, q.bs, q.bm]) (fun x hx => .inl (by simp at hx; simp [hx])))); clear r1 r2)
            | ((with_reducible refine gate_dst (N := 12) rfl ?_); refine box_event ?hg (N := 12) ?hd (cs := zeroCrd.cells.toArray) (t := 44) ?hr ?_; (case hd => rfl); (case hg => rfl); (case hr => first | (go_simp; done) | (go_simp; rfl)); intro g hg w6 hbox hb; have X6 := Aside0.mk hbox; have G6 := Aside0.mk (show w5.heap.size ≤ g by rw [hg]; exact Nat.le_refl _); have V6 := Aside0.mk (V5.out.below hb); have M6 := Aside0.mk (M5.out.below hb); have T6 := Aside0.mk (T5.out.trans (Turn.of_below hb _)); clear hb hbox hg)
            | ((with_reducible refine gate_store (t := 44) (p := 12) rfl ?_); obtain ⟨w8, hs, hb6, t6⟩ := store_card X6.out rfl (freshC (1 + k') ver); refine store_event (t := 44) (p := 12) (w1 := w8) rfl rfl rfl (pr_store_exec rfl rfl rfl hs) ?_; intro w7 hw7; rw [← hw7] at t6 hb6; have V7 := Aside0.mk (V6.out.kept t6 (fun b hb => by have h1 := V5.out.lts b hb; have h2 := G6.out; simp; omega)); have M7 := Aside0.mk (M6.out.kept t6 (fun b hb => by have h1 := M5.out.lts b hb; have h2 := G6.out; simp; omega));
               have T7 := Aside0.mk (show Turn [q.bo, q.bs, q.bm] w3 w7 from ((T6.out.mono (L' := [q.bo, q.bs, q.bm, g]) (fun x hx => .inl (by simp at hx; rcases hx with rfl | rfl | rfl <;> simp))).trans (t6.mono (L' := [q.bo, q.bs, q.bm, g]) (fun x hx => .inl (by simp at hx; simp [hx])))).mono (fun x hx => by have h2 := G6.out; have h3 := T5.out.size; simp at hx ⊢; omega)); have x0 : w7.cell? ⟨g, 0, none⟩ = some (.int .i64 (1 + k')) := cell_of hb6 (o := 0) rfl
               clear hs hb6 t6 hw7))
          go_roundw
          case rel => exact ⟨m + 1, _, by omega, by omega, by go_num, A2.out, V7.out, M7.out, T7.out⟩
          case measure => simp [intOf]; omega
        · obtain rfl : m = 24 := by omega
          go_wp2_with (first
            | (go_at_call 13; refine (Take_none VV.out MM.out n' (by omega) (fun i hi => AA.out.fr _)).mono ?_; rintro e w4 ⟨rfl, hb⟩; have V4 := Aside0.mk (VV.out.below hb); have M4 := Aside0.mk (MM.out.below hb); have T4 := Aside0.mk (TT.out.trans (Turn.of_below hb _)); clear hb)
            | (go_at_call 12; refine (Node_none V4.out M4.out (1 + k') hkd (fun i h2 hi => by rw [AA.out.us _ (by omega)]; exact decide_eq_true (by omega))).mono ?_; rintro e w5 ⟨rfl, hb⟩; have T5 := Aside0.mk (T4.out.trans (Turn.of_below hb _)); clear hb))
          go_ret
          exact ⟨rfl, B3.out.trans (T5.out.below B3.out.size (fun x hx => by
            have a := QL.out q.bo (by simp [Vp.list])
            have b := QL.out q.bs (by simp [Vp.list])
            have c := QL.out q.bm (by simp [Vp.list])
            simp at hx
            omega))⟩
end Go.Proofs.Ytpkfdoefpmgfiaa.Sto
