/- Which blocks are free for a view. -/
import Derived.Test.YtkbhilhefnahpaaLwA
namespace Go.Proofs.Ytkbhilhefnahpaa.Vw
open Go Go.RowKit Go.Proofs.Ytkbhilhefnahpaa.ML Go.Proofs.Ytkbhilhefnahpaa.Mem Go.Proofs.Ytkbhilhefnahpaa.Print Go.Proofs.YtkbhilhefnahpaaW.PrintWords Go.Proofs.YtkbhilhefnahpaaW.PrintLast Go.Proofs.YtkbhilhefnahpaaW.PrintMore
set_option linter.unusedVariables false
set_option linter.unusedSimpArgs false
theorem AvoidsNode_as {w : World} {q : Vp} {f : Fp} {V : VS} (h : IsView w q f V) (i : Int) (hi : oki i) (b : Bool) (hb : noted V.awayN i = b) : Calls Try.prog 14 #[vptr q, .int .i64 i] w fun e w' => e = .returned (.bool b) ∧ w = w' := by
  rw [← hb]
  exact AvoidsNode_calls h i hi
theorem note1 (k : Int) : noted (noteM [k]) k = true := by
  show (get (ML.put [] k true) k).getD false = true
  rw [get_put, if_pos rfl]
  rfl
theorem note0 (k : Int) : noted (noteM []) k = false := rfl
theorem fresh_avoid (V : VS) (S : MS) (l m : List Int) (i : Int) : (V.avoid l m).fresh S i = (decide (0 ≤ i ∧ i < 96) && (S.read (200 + i) == 0) && (V.read S (200 + i) == 0) && !noted (noteM l) i) := rfl
theorem fresh_wiped (V : VS) (S : MS) (i : Int) : V.wiped.fresh S i = (decide (0 ≤ i ∧ i < 96) && (S.read (200 + i) == 0) && (S.read (200 + i) == 0) && !noted V.away i) := rfl
theorem C_one {w : World} {g : Nat} {e : TypeId} {b : Int} (h : w.heap[g]? = some (.cells #[.int .i64 b] e (0, 0))) : Kd.C (Kd.int .i64) w (some ⟨g, 0, none⟩) 1 [b] := by
  refine ⟨rfl, by decide, fun h0 => ⟨⟨g, 0, none⟩, rfl, fun j p hj => ⟨[.int .i64 p], rfl, rfl, fun i u hi => ?_⟩⟩⟩
  have hj0 : j = 0 := by have := (List.getElem?_eq_some_iff.1 hj).1; simpa using this
  subst hj0
  obtain rfl : b = p := by simpa using hj
  have hi0 : i = 0 := by have := (List.getElem?_eq_some_iff.1 hi).1; simpa using this
  subst hi0
  obtain rfl : Value.int .i64 b = u := by simpa using hi
  exact cell_of h rfl
theorem two_below (w : World) (x y : Obj) : Below w.heap.size w ((w.alloc x).alloc y) := ((Below.refl _ w).alloc (Nat.le_refl _) _).alloc (by simp) _
theorem two_fst (w : World) (x y : Obj) : ((w.alloc x).alloc y).heap[w.heap.size]? = some x := by
  rw [heap_old _ _ (by simp)]
  exact heap_new w x
theorem two_snd (w : World) (x y : Obj) : ((w.alloc x).alloc y).heap[w.heap.size + 1]? = some y := by
  have h := heap_new (w.alloc x) y
  rw [show (w.alloc x).heap.size = w.heap.size + 1 by simp] at h
  exact h
theorem C_none (w : World) : Kd.C (Kd.int .i64) w none 0 [] := ⟨rfl, by decide, fun h => absurd h (by simp)⟩
theorem wtm (n m : Int) (hm : 0 < m) (hm2 : m < 9223372036854775807) : ∃ x : Int, IntKind.i64.wrap (Int.tmod (IntKind.u64.wrap n) m) = x ∧ 0 ≤ x ∧ x < m := by
  have h0 : 0 ≤ IntKind.u64.wrap n := by simp [IntKind.wrap, IntKind.signed, IntKind.bits]; omega
  refine ⟨Int.tmod (IntKind.u64.wrap n) m, ?_, Int.tmod_nonneg _ h0, Int.tmod_lt_of_pos _ hm⟩
  have h1 := Int.tmod_nonneg m h0
  have h2 := Int.tmod_lt_of_pos (IntKind.u64.wrap n) hm
  generalize Int.tmod (IntKind.u64.wrap n) m = y at *
  simp [IntKind.wrap, IntKind.signed, IntKind.bits]
  omega
set_option maxHeartbeats 4000000 in
set_option maxRecDepth 100000 in
theorem ViewFresh_calls (w : World) (n v : Int) (hv : okw v) : Calls Try.prog 3 #[.int .i64 n, .int .u64 v] w fun e w' => e = .returned (.bool true) ∧ Below w.heap.size w w' := by
  obtain ⟨b, hb', hb0, hb1⟩ := wtm n 96 (by omega) (by omega)
  obtain ⟨c, hc⟩ : ∃ c : Bool, (v == 0) = c := ⟨_, rfl⟩
  obtain ⟨a2, ha2⟩ : ∃ a2, 200 + b = a2 := ⟨_, rfl⟩
  have q1 : IntKind.i64.wrap a2 = a2 := by simp [IntKind.wrap, IntKind.signed, IntKind.bits]; omega
  have HV := Aside0.mk hv
  have HB := Aside0.mk (show oki b by unfold oki; omega)
  have HA2 := Aside0.mk (show oki a2 by unfold oki; omega)
  have HO := Aside0.mk (show PlanF.openB a2 = true by unfold PlanF.openB; exact decide_eq_true (by omega))
  have hs0 : S0.read (200 + b) = 0 := clean_img.2 _ (by omega) (by omega)
  have F0 := Aside0.mk (show newV.fresh S0 b = true by rw [fresh0]; exact decide_eq_true ⟨hb0, hb1⟩)
  have F1 := Aside0.mk (show (newV.put a2 v).fresh S0 b = c by
    rw [fresh_put, ha2, if_pos rfl, ← ha2, hs0, decide_eq_true ⟨hb0, hb1⟩, hc]
    cases c <;> rfl)
  have F2 := Aside0.mk (show (newV.avoid [b] [b]).fresh S0 b = false by rw [fresh_avoid, note1]; simp)
  have F3 := Aside0.mk (show ((newV.avoid [b] [b]).avoid [] []).fresh S0 b = true by
    have e : (newV.avoid [b] [b]).read S0 (200 + b) = S0.read (200 + b) := newV_read S0 (200 + b)
    rw [fresh_avoid, note0, e, hs0, decide_eq_true ⟨hb0, hb1⟩]
    rfl)
  have F4 := Aside0.mk (show (newV.put a2 v).wiped.fresh S0 b = true by
    rw [fresh_wiped, hs0, decide_eq_true ⟨hb0, hb1⟩, put_away]
    rfl)
  have HI := Aside0.mk (show ∀ k ∈ [b], oki k by intro k hk; have h_ : k = b := (by simpa using hk); rw [h_]; exact HB.out)
  clear hs0 hv
  go_enter Try.func3, Try.ntmps3
  go_wp2_with (first
    | (go_at_call 6; refine (lives_calls _).mono ?_; rintro e w0 ⟨rfl, hb⟩; have B0 := Aside0.mk hb; clear hb)
    | (go_at_call 8; refine (image_as _).mono ?_; rintro e w1 ⟨A, cap, rfl, hC, hc, hb⟩; have C1 := Aside0.mk hC; have K1 := Aside0.mk hc; have B1 := Aside0.mk (B0.out.trans (hb.mono B0.out.size)); clear hC hc hb)
    | (go_at_call 7; refine (Load_as 2824 img_len C1.out K1.out img_ok).mono ?_; rintro e w2 ⟨f, rfl, f1, f2, f3⟩; have M2 := Aside0.mk (show IsMem w2 f S0 from f1); have B2 := Aside0.mk (B1.out.trans (f3.mono B1.out.size)); clear f1 f2 f3)
    | (go_at_call 9; refine (New_as M3.out S0_len).mono ?_; rintro e w4 ⟨p, rfl, f1, f2, f3, f4, f5⟩; have PV4 := Aside0.mk f1; have QV4 := Aside0.mk (QV3.out.below f5); have M4 := Aside0.mk f2; have SP := Aside0.mk f3; have QN := Aside0.mk QV3.out.lts; have PN := Aside0.mk f4; have SZ := Aside0.mk f5.size; have B4 := Aside0.mk (B3.out.trans (f5.mono B3.out.size)); clear f1 f2 f3 f4 f5)
    | (go_at_call 9; refine (New_as M2.out S0_len).mono ?_; rintro e w3 ⟨q, rfl, f1, f2, f3, f4, f5⟩; have QV3 := Aside0.mk f1; have M3 := Aside0.mk f2; have SQ := Aside0.mk f3; have QL := Aside0.mk (fun b hb => Nat.le_trans B2.out.size (f4 b hb)); have B3 := Aside0.mk (B2.out.trans (f5.mono B2.out.size)); clear f1 f2 f3 f4 f5 M2)
    | (go_at_call 10; refine (Fresh_as QV4.out M4.out b HB.out true F0.out).mono ?_; rintro e w5 ⟨rfl, hb⟩; have QV5 := Aside0.mk (QV4.out.below hb); have PV5 := Aside0.mk (PV4.out.below hb); have M5 := Aside0.mk (M4.out.below hb); have T5 := Aside0.mk (Turn.of_below hb [q.bo, p.p, q.p]); clear hb QV4 PV4 M4)
    | (go_at_call 11; refine (Write_as QV5.out a2 v HA2.out HV.out HO.out).mono ?_; rintro e w6 ⟨rfl, r1, r2⟩; have QV6 := Aside0.mk r1; have PV6 := Aside0.mk (PV5.out.kept r2 (fun x hx => by have h1 := PN.out x hx; have h2 := QN.out q.bo (by simp [Vp.list]); simp; omega)); have M6 := Aside0.mk (SQ.out.mem1 M5.out r2); have T6 := Aside0.mk (T5.out.trans (r2.mono (L' := [q.bo, p.p, q.p]) (fun x hx => .inl (by simp at hx; simp [hx])))); clear r1 r2 QV5 PV5 M5)
    | (go_at_call 10; refine (Fresh_as QV6.out M6.out b HB.out c F1.out).mono ?_; rintro e w7 ⟨rfl, hb⟩; have QV7 := Aside0.mk (QV6.out.below hb); have PV7 := Aside0.mk (PV6.out.below hb); have M7 := Aside0.mk (M6.out.below hb); have T7 := Aside0.mk (T6.out.trans (Turn.of_below hb _)); clear hb QV6 PV6 M6)
    | (go_at_call 10; refine (Fresh_as PV7.out M7.out b HB.out true F0.out).mono ?_; rintro e w8 ⟨rfl, hb⟩; have QV8 := Aside0.mk (QV7.out.below hb); have PV8 := Aside0.mk (PV7.out.below hb); have M8 := Aside0.mk (M7.out.below hb); have T8 := Aside0.mk (T7.out.trans (Turn.of_below hb _)); clear hb QV7 PV7 M7)
    | (go_at_call 12; refine (Avoid_calls (l1 := [b]) (l2 := [b]) (PV8.out.below (two_below w8 _ _)) (C_one (two_fst w8 _ _)) (C_one (two_snd w8 _ _)) (by simp) (by simp) HI.out HI.out).mono ?_; rintro e w9 ⟨rfl, b1, b2, n1, n2, r1, r2⟩; have PV9 := Aside0.mk r1; have t8 := two_below w8 (.cells #[.int .i64 b] 3 (0, 0)) (.cells #[.int .i64 b] 3 (0, 0)); have N9 := Aside0.mk (show w3.heap.size ≤ b1 ∧ w3.heap.size ≤ b2 from by have h1 := t8.size; have h2 := SZ.out; have h3 := T8.out.size; omega); have QV9 := Aside0.mk ((QV8.out.below t8).kept r2 (fun x hx => by have h1 := PN.out p.p (by simp [Vp.list]); have h2 := QN.out x hx; simp; omega)); have M9 := Aside0.mk (SP.out.mem0 (M8.out.below t8) r2); have T9 := Aside0.mk ((T8.out.trans (Turn.of_below t8 _)).trans (r2.mono (L' := [q.bo, p.p, q.p]) (fun x hx => .inl (by simp at hx; simp [hx])))); clear r1 r2 t8 n1 n2 QV8 PV8 M8)
    | (go_at_call 10; refine (Fresh_as PV9.out M9.out b HB.out false F2.out).mono ?_; rintro e wa ⟨rfl, hb⟩; have QVa := Aside0.mk (QV9.out.below hb); have PVa := Aside0.mk (PV9.out.below hb); have Ma := Aside0.mk (M9.out.below hb); have Ta := Aside0.mk (T9.out.trans (Turn.of_below hb _)); clear hb QV9 PV9 M9)
    | (go_at_call 13; refine (Avoids_as PVa.out b HB.out true (note1 b)).mono ?_; rintro e w' ⟨rfl, rfl⟩)
    | (go_at_call 14; refine (AvoidsNode_as PVa.out b HB.out true (note1 b)).mono ?_; rintro e w' ⟨rfl, rfl⟩)
    | (go_at_call 12; refine (Avoid_calls (l1 := []) (l2 := []) PVa.out (C_none _) (C_none _) (by simp) (by simp) (by simp) (by simp)).mono ?_; rintro e wb ⟨rfl, b3, b4, n1, n2, r1, r2⟩; have PVb := Aside0.mk r1; have QVb := Aside0.mk (QVa.out.kept r2 (fun x hx => by have h1 := PN.out p.p (by simp [Vp.list]); have h2 := QN.out x hx; simp [Vp.avoid]; omega)); have Mb := Aside0.mk (SP.out.mem0 Ma.out r2); have Nb := Aside0.mk (show w3.heap.size ≤ b3 ∧ w3.heap.size ≤ b4 from by have h2 := SZ.out; have h3 := Ta.out.size; omega); have Tb := Aside0.mk (Ta.out.trans (Turn.mono r2 (L' := [q.bo, p.p, q.p]) (fun x hx => .inl (by simp [Vp.avoid] at hx; simp [hx])))); clear r1 r2 n1 n2 QVa PVa Ma)
    | (go_at_call 15; refine (Reset_calls QVb.out).mono ?_; rintro e wc ⟨rfl, s0, n1, r1, r2⟩; have QVc := Aside0.mk r1; have PVc := Aside0.mk (PVb.out.kept r2 (fun x hx => by have h1 := PN.out x; have h2 := QN.out q.p (by simp [Vp.list]); have h3 := Nb.out; have h4 := PN.out p.p (by simp [Vp.list]); have h5 := PN.out p.bo (by simp [Vp.list]); have h6 := PN.out p.bs (by simp [Vp.list]); have h7 := PN.out p.bm (by simp [Vp.list]); simp [Vp.list, Vp.avoid] at hx; simp; omega)); have Mc := Aside0.mk (SQ.out.mem0 Mb.out r2); have Tc := Aside0.mk (Tb.out.trans (r2.mono (L' := [q.bo, p.p, q.p]) (fun x hx => .inl (by simp at hx; simp [hx])))); clear r1 r2 n1 QVb PVb Mb)
    | (go_at_call 10; refine (Fresh_as PVc.out Mc.out b HB.out true F3.out).mono ?_; rintro e wd ⟨rfl, hb⟩; have QVd := Aside0.mk (QVc.out.below hb); have PVd := Aside0.mk (PVc.out.below hb); have Md := Aside0.mk (Mc.out.below hb); have Td := Aside0.mk (Tc.out.trans (Turn.of_below hb _)); clear hb QVc PVc Mc)
    | (go_at_call 10; refine (Fresh_as QVd.out Md.out b HB.out true F4.out).mono ?_; rintro e we ⟨rfl, hb⟩; have PVe := Aside0.mk (PVd.out.below hb); have Te := Aside0.mk (Td.out.trans (Turn.of_below hb _)); clear hb QVd PVd Md)
    | (go_at_call 13; refine (Avoids_as PVe.out b HB.out false (note0 b)).mono ?_; rintro e w' ⟨rfl, rfl⟩)
    | fail)
  go_ret
  exact ⟨rfl, B4.out.trans (Te.out.below B4.out.size (fun x hx => by
    have h1 := QL.out q.bo (by simp [Vp.list])
    have h2 := QL.out q.p (by simp [Vp.list])
    have h3 := PN.out p.p (by simp [Vp.list])
    have h4 := B3.out.size
    simp at hx
    omega))⟩
end Go.Proofs.Ytkbhilhefnahpaa.Vw
