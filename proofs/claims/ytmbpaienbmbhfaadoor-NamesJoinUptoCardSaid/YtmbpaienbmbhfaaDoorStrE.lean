/- Texts: two rows of texts, one behind the other (slices.Concat); names.Lead. -/
import Derived.Handy
import Derived.Test.YtmbpaienbmbhfaaDoorStrD
namespace Go.Proofs.YtmbpaienbmbhfaaDoor.Str
open Go Go.Shelf Go.RowKit Go.Proofs.YtmbpaienbmbhfaaDoor.Print Go.Proofs.YtmbpaienbmbhfaaDoorW.PrintWords Go.Proofs.YtmbpaienbmbhfaaDoorW.PrintLast Go.Proofs.YtmbpaienbmbhfaaDoorW.PrintMore
set_option linter.unusedVariables false
set_option linter.unusedSimpArgs false
theorem R_cut0 {α : Type} {d : Kd α} {e base : Nat} {w : World} {g n cap : Nat} {xs : List α} (h : Kd.R d e w base (fun _ => True) (.slice (some ⟨g, 0, none⟩) n cap) xs) : Kd.R d e w base (fun _ => True) (.slice (some ⟨g, 0, none⟩) 0 cap) [] := by
  obtain ⟨hok, inner, hown, hr⟩ := h
  refine ⟨fun _ _ => trivial, [], ⟨by simp, ?_⟩, Reps.none _ _⟩
  rcases hown.2 with ⟨h1, _⟩ | ⟨g', cap', cur, h1, h2, h3, h4, h5, h6, h7⟩
  · cases h1
  · injection h1 with e1 e2 e3
    injection e1 with e1
    injection e1 with e1 _ _
    subst e1; subst e3
    exact .inr ⟨g, cap, cur, rfl, h2, h3, Nat.zero_le _, h5, h6, by simp⟩
set_option maxHeartbeats 1000000 in
/-- Room for so many. -/
theorem Grow_calls (w : World) (n : Nat) (hn : n ≤ 4000000) :
    Calls Tryd.prog 40 #[.slice none 0 0, .int .i64 (n : Int)] w fun e w' => ∃ v, e = .returned v ∧ Kd.R Kd.string 9 w' w.heap.size (fun _ => True) v [] ∧ Below w.heap.size w w' := by
  have hu := Tryd.underlying23
  by_cases h0 : n = 0
  · subst h0
    go_enter Tryd.func40, Tryd.ntmps40
    go_wp2
    go_ret
    exact ⟨_, rfl, Kd.R_nil _ _ _ _ _, Below.refl _ _⟩
  · have hp : 0 < n := by omega
    go_enter Tryd.func40, Tryd.ntmps40
    go_wp2_with (first
      | ((with_reducible refine gate_builtin (b := .append) (xs := #[.tmp 20, .tmp 21]) rfl ?_); at_builtin; refine Kd.R_append_zeros Kd.string (w0 := w) w.heap.size rfl (.tmp 20) (.tmp 21) 23 3 9 (.string ⟨#[]⟩) 16 rfl Tryd.underlying23 Tryd.underlying3 info9 rfl (by decide) (by omega) (.slice none 0 0) [] ByteArray.empty (kx := .i64) (n : Int) (fun _ => True) rfl rfl rfl (fun _ _ => trivial) (Kd.R_nil _ _ _ _ _) (by omega) (Below.refl _ _) (Nat.le_refl _) (by simp; omega) ?_; intro v1 w1 ho hb hg hat; obtain ⟨g, cap, rfl, hcap⟩ := R_form ho (by simp; omega); have HO := Aside0.mk (R_cut0 ho); have HB := Aside0.mk hb; clear ho hb hg hat))
    go_ret
    exact ⟨_, rfl, HO.out, HB.out⟩
set_option maxHeartbeats 2000000 in
/-- Two rows, one behind the other. -/
theorem Concat_calls {w : World} {gb : Nat} {A : Option Addr} {c : Nat} {p : List ByteArray} {B : Option Addr} {d : Nat} {q : List ByteArray} (hb0 : w.heap[gb]? = some (.cells #[.slice A p.length c, .slice B q.length d] 23 (0, 0))) (hp : Kd.C Kd.string w A p.length p) (hq : Kd.C Kd.string w B q.length q) (hc : p.length ≤ c) (hd : q.length ≤ d) (hn : p.length + q.length ≤ 4000000) :
    Calls Tryd.prog 32 #[.slice (some ⟨gb, 0, none⟩) 2 2] w fun e w' => ∃ v, e = .returned v ∧ Kd.R Kd.string 9 w' w.heap.size (fun _ => True) v (p ++ q) ∧ Below w.heap.size w w' := by
  have hu := Tryd.underlying23
  have HC := Aside0.mk hb0
  have HP := Aside0.mk hp
  have HQ := Aside0.mk hq
  have GB := Aside0.mk (blk_lt hb0)
  clear hb0 hp hq
  go_enter Tryd.func32, Tryd.ntmps32
  go_wp2
  go_loopw [3, 11] (fun x3 x11 wr => ∃ j : Nat, j ≤ 2 ∧ x11 = .int .i64 (j : Int) ∧ Aside0 (x3 = .int .i64 (((if j = 0 then 0 else if j = 1 then p.length else p.length + q.length : Nat)) : Int)) ∧ Aside0 (Below w.heap.size w wr)) (fun _ x11 _ => 2 - (intOf x11).toNat)
  case atStart => exact ⟨0, by omega, rfl, ⟨rfl⟩, ⟨Below.refl _ _⟩⟩
  case round =>
    obtain ⟨j, hj, rfl, ⟨h3⟩, HB⟩ := hrel
    subst h3
    have x0 := (blk_cell (blk_below HC.out HB.out) 0).trans rfl
    have x1 := (blk_cell (blk_below HC.out HB.out) 1).trans rfl
    match j, hj with
    | 0, _ =>
      go_wp2
      go_roundw
      all_goals first | exact ⟨1, by omega, rfl, ⟨by simp⟩, HB⟩ | (simp [intOf]; done)
    | 1, _ =>
      go_wp2
      go_roundw
      all_goals first | exact ⟨2, by omega, rfl, ⟨by simp⟩, HB⟩ | (simp [intOf]; done)
    | 2, _ =>
      clear x0 x1
      go_wp2_with (go_at_call 40; refine (Grow_calls _ (p.length + q.length) hn).mono ?_; rintro e w1 ⟨v, rfl, ho, hb⟩; have HO := Aside0.mk (Kd.R_lower ho HB.out.size); have HB1 := Aside0.mk (HB.out.trans (hb.mono HB.out.size)); clear ho hb)
      have HO1 := HO
      clear HO HB
      go_loopw [6, 27] (fun v6 x27 wr => ∃ j : Nat, j ≤ 2 ∧ x27 = .int .i64 (j : Int) ∧ Aside0 (Kd.R Kd.string 9 wr w.heap.size (fun _ => True) v6 (if j = 0 then [] else if j = 1 then p else p ++ q)) ∧ Aside0 (Below w.heap.size w wr)) (fun _ x27 _ => 2 - (intOf x27).toNat)
      case atStart => exact ⟨0, by omega, rfl, HO1, HB1⟩
      case round =>
        obtain ⟨j, hj, rfl, HO, HB⟩ := hrel
        have x0 := (blk_cell (blk_below HC.out HB.out) 0).trans rfl
        have x1 := (blk_cell (blk_below HC.out HB.out) 1).trans rfl
        match j, hj with
        | 0, _ =>
          have HO0 := Aside0.mk (show Kd.R Kd.string 9 wr w.heap.size (fun _ => True) u6 ([] : List ByteArray) from by simpa using HO.out)
          clear HO
          have HO := HO0
          clear HO0
          go_wp2_with ((with_reducible refine gate_builtin (b := .append) (xs := #[.tmp 31, .tmp 32]) rfl ?_); at_builtin; refine Kd.R_append_rows Kd.string (w0 := w) w.heap.size rfl (.tmp 31) (.tmp 32) 23 9 (.string ⟨#[]⟩) 16 rfl Tryd.underlying23 info9 rfl (by decide) (by omega) u6 [] p A p.length c (fun _ => True) (fun _ => False) rfl rfl HO.out (Kd.C_below HP.out HB.out) (fun _ _ h => h) (fun _ h => h.elim) (fun _ _ => trivial) HB.out (below_size HB.out) (by first | omega | (simp; omega)) ?_; intro v9 w9 ho hb hg hat; have HO9 := Aside0.mk ho; have HB9 := Aside0.mk hb; clear ho hb hg hat)
          go_roundw
          all_goals first | exact ⟨1, by omega, rfl, ⟨by simpa using HO9.out⟩, HB9⟩ | (simp [intOf]; done)
        | 1, _ =>
          have HO0 := Aside0.mk (show Kd.R Kd.string 9 wr w.heap.size (fun _ => True) u6 p from by simpa using HO.out)
          clear HO
          have HO := HO0
          clear HO0
          go_wp2_with ((with_reducible refine gate_builtin (b := .append) (xs := #[.tmp 31, .tmp 32]) rfl ?_); at_builtin; refine Kd.R_append_rows Kd.string (w0 := w) w.heap.size rfl (.tmp 31) (.tmp 32) 23 9 (.string ⟨#[]⟩) 16 rfl Tryd.underlying23 info9 rfl (by decide) (by omega) u6 p q B q.length d (fun _ => True) (fun _ => False) rfl rfl HO.out (Kd.C_below HQ.out HB.out) (fun _ _ h => h) (fun _ h => h.elim) (fun _ _ => trivial) HB.out (below_size HB.out) (by first | omega | (simp; omega)) ?_; intro v9 w9 ho hb hg hat; have HO9 := Aside0.mk ho; have HB9 := Aside0.mk hb; clear ho hb hg hat)
          go_roundw
          all_goals first | exact ⟨2, by omega, rfl, ⟨by simpa using HO9.out⟩, HB9⟩ | (simp [intOf]; done)
        | 2, _ =>
          clear x0 x1
          have ho := HO.out
          rw [if_neg (by decide), if_neg (by decide)] at ho
          have HO2 := Aside0.mk ho
          clear ho HO
          go_wp2
          go_ret
          exact ⟨_, rfl, HO2.out, HB.out⟩
theorem lit_event {P : Program} {ops : Array Oper} {rest : List Oper} {o : Oper} {a : Act} {Q : Exit → Act → World → Prop} {W : World} (hgd : o.guard = none) {N : Tmp} (_hd : o.dst = some N) {v : Value} {cs : Array Value} {t : TypeId}
    (hrun : (execOp a.eval o).run P W = .ok (.value v) (W.alloc (.cells cs t (0, 0)))) (h : ∀ w1, w1.heap[W.heap.size]? = some (.cells cs t (0, 0)) → Below W.heap.size W w1 → wpList P ops Q rest (a.put o.dst v) w1) : wpList P ops Q (o :: rest) a W :=
  Kd.event_run hgd hrun (h _ (blk_new W _) (below_alloc (Below.refl _ _) _))
def leadF (l0 l1 : List ByteArray) : Option (List ByteArray) := if l0.length + l1.length ≤ 4000000 then some (l0 ++ l1) else none
set_option maxHeartbeats 1000000 in
theorem Lead_calls (A0 : Option Addr) (c0 : Nat) (l0 : List ByteArray) (A1 : Option Addr) (c1 : Nat) (l1 : List ByteArray) (r : List ByteArray) (w : World) (hr0 : Kd.C Kd.string w A0 l0.length l0) (hc0 : l0.length ≤ c0) (hr1 : Kd.C Kd.string w A1 l1.length l1) (hc1 : l1.length ≤ c1) (h : leadF l0 l1 = some r) :
    Calls Tryd.prog 22 #[.slice A0 l0.length c0, .slice A1 l1.length c1] w fun e w' => ∃ v0_ : Value, e = .returned v0_ ∧ Kd.R Kd.string 9 w' w.heap.size (fun _ => True) v0_ r ∧ Below w.heap.size w w' := by
  unfold leadF at h
  by_cases c : l0.length + l1.length ≤ 4000000
  · rw [if_pos c] at h
    obtain rfl := Option.some.inj h
    have HP := Aside0.mk hr0
    have HQ := Aside0.mk hr1
    have HC := Aside0.mk hc0
    have HD := Aside0.mk hc1
    have HN := Aside0.mk c
    clear hr0 hr1 hc0 hc1 c h
    go_enter Tryd.func22, Tryd.ntmps22
    go_wp2_with (first
      | ((with_reducible refine gate_dst (N := 7) rfl ?_); refine lit_event ?hg (N := 7) ?hd (v := .slice (some ⟨w.heap.size, 0, none⟩) 2 2) (cs := #[.slice A0 l0.length c0, .slice A1 l1.length c1]) (t := 23) ?hr ?_; (case hd => rfl); (case hg => rfl); (case hr => first | (go_simp; done) | (go_simp; rfl)); intro w3 hbox hb; have BX := Aside0.mk hbox; have B3 := Aside0.mk hb; clear hb hbox)
      | (go_at_call 32; refine (Concat_calls BX.out (Kd.C_below HP.out B3.out) (Kd.C_below HQ.out B3.out) HC.out HD.out HN.out).mono ?_; rintro e w4 ⟨v, rfl, ho, hb⟩; have HO := Aside0.mk (Kd.R_lower ho B3.out.size); have B4 := Aside0.mk (B3.out.trans (hb.mono B3.out.size)); clear ho hb))
    go_ret
    exact ⟨_, rfl, HO.out, B4.out⟩
  · rw [if_neg c] at h
    cases h
end Go.Proofs.YtmbpaienbmbhfaaDoor.Str
