/- Two patches as one: what the library does. -/
import Derived.Handy
import Derived.Shelf.SlIterI.Nil
import Derived.Shelf.SortM.Plain
import Derived.Shelf.SortM.SortNone
import Derived.Ground.GgzProg
import Derived.Ground.SlgmProg
import Derived.Test.YtldlacphokbgcaaMapL
import Derived.Test.YtldlacphokbgcaaPrint2
namespace Go.Proofs.Ytldlacphokbgcaa.Jo
open Go Go.Maps Go.Sort Go.Shelf Go.RowKit Go.Proofs.Ytldlacphokbgcaa.ML Go.Proofs.Ytldlacphokbgcaa.Print Go.Proofs.YtldlacphokbgcaaW.PrintWords Go.Proofs.YtldlacphokbgcaaW.PrintLast Go.Proofs.YtldlacphokbgcaaW.PrintMore
set_option linter.unusedVariables false
set_option linter.unusedSimpArgs false
abbrev Ch := S31
theorem zrunU (w : World) : (zeroValue 29).run Try.prog w = .ok (.int .u64 0) w := by kernel_rfl
def ekU : EK Try.prog 29 Int := ekInt Try.underlying29 zrunU
theorem mtM : MT Try.prog 48 3 29 := ⟨Try.underlying48, Try.underlying3⟩
theorem R_cut0 {α : Type} {d : Kd α} {e base : Nat} {w : World} {g n cap : Nat} {xs : List α} (h : Kd.R d e w base (fun _ => True) (.slice (some ⟨g, 0, none⟩) n cap) xs) : Kd.R d e w base (fun _ => True) (.slice (some ⟨g, 0, none⟩) 0 cap) [] := by
  obtain ⟨hok, inner, hown, hr⟩ := h
  refine ⟨fun _ _ => trivial, [], ⟨by simp, ?_⟩, Reps.none _ _⟩
  rcases hown.2 with ⟨h1, _⟩ | ⟨g', cap', cur, h1, h2, h3, h4, h5, h6, h7⟩
  · cases h1
  · injection h1 with e1 e2 e3
    injection e1 with e1
    injection e1 with e1 _ _
    subst e1; subst e3
    exact .inr ⟨g, cap, cur, rfl, h2, h3, Nat.zero_le _, h5, h6, by simp⟩
theorem R_form {α : Type} {d : Kd α} {e base : Nat} {ok : Nat → Prop} {w : World} {v : Value} {xs : List α} (h : Kd.R d e w base ok v xs) (hx : 0 < xs.length) : ∃ g cap, v = .slice (some ⟨g, 0, none⟩) xs.length cap ∧ xs.length ≤ cap := by
  obtain ⟨hok, inner, hown, hr⟩ := h
  rcases hown.2 with ⟨_, h1⟩ | ⟨g', cap', cur, h1, h2, h3, h4, h5, h6, h7⟩
  · omega
  · exact ⟨g', cap', h1, h4⟩
set_option maxHeartbeats 1000000 in
/-- Room for so many. -/
theorem Grow_calls (w : World) (n : Nat) (hn : n ≤ 1000000) :
    Calls Try.prog 35 #[.slice none 0 0, .int .i64 (n : Int)] w fun e w' => ∃ v, e = .returned v ∧ Kd.R k31 31 w' w.heap.size (fun _ => True) v [] ∧ Below w.heap.size w w' := by
  have hu := Try.underlying22
  by_cases h0 : n = 0
  · subst h0
    go_enter Try.func35, Try.ntmps35
    go_wp2
    go_ret
    exact ⟨_, rfl, Kd.R_nil _ _ _ _ _, Below.refl _ _⟩
  · have hp : 0 < n := by omega
    go_enter Try.func35, Try.ntmps35
    go_wp2_with (first
      | ((with_reducible refine gate_builtin (b := .append) (xs := #[.tmp 20, .tmp 21]) rfl ?_); at_builtin; refine Kd.R_append_zeros k31 (w0 := w) w.heap.size rfl (.tmp 20) (.tmp 21) 22 3 31 (.agg #[.int .i64 0, .int .u64 0]) 16 rfl Try.underlying22 Try.underlying3 info31 rfl (by decide) (by omega) (.slice none 0 0) [] z31 (kx := .i64) (n : Int) (fun _ => True) rfl rfl (k31_mkM _ _ _ z31) (fun _ _ => trivial) (Kd.R_nil _ _ _ _ _) (by omega) (Below.refl _ _) (Nat.le_refl _) (by simp; omega) ?_; intro v1 w1 ho hb hg hat; obtain ⟨g, cap, rfl, hcap⟩ := R_form ho (by simp; omega); have HO := Aside0.mk (R_cut0 ho); have HB := Aside0.mk hb; clear ho hb hg hat))
    go_ret
    exact ⟨_, rfl, HO.out, HB.out⟩
set_option maxHeartbeats 2000000 in
/-- Two rows, one behind the other. -/
theorem Concat_calls {w : World} {gb : Nat} {A : Option Addr} {c : Nat} {p : List Ch} {B : Option Addr} {d : Nat} {q : List Ch} (hb0 : w.heap[gb]? = some (.cells #[.slice A p.length c, .slice B q.length d] 22 (0, 0))) (hp : Kd.C k31 w A p.length p) (hq : Kd.C k31 w B q.length q) (hc : p.length ≤ c) (hd : q.length ≤ d) (hn : p.length + q.length ≤ 1000000) :
    Calls Try.prog 31 #[.slice (some ⟨gb, 0, none⟩) 2 2] w fun e w' => ∃ v, e = .returned v ∧ Kd.R k31 31 w' w.heap.size (fun _ => True) v (p ++ q) ∧ Below w.heap.size w w' := by
  have hu := Try.underlying22
  have HC := Aside0.mk hb0
  have HP := Aside0.mk hp
  have HQ := Aside0.mk hq
  have GB := Aside0.mk (blk_lt hb0)
  clear hb0 hp hq
  go_enter Try.func31, Try.ntmps31
  go_wp2
  go_loopw [3, 11] (fun x3 x11 wr => ∃ j : Nat, j ≤ 2 ∧ x11 = .int .i64 (j : Int) ∧ Aside0 (x3 = .int .i64 (((if j = 0 then 0 else if j = 1 then p.length else p.length + q.length : Nat)) : Int)) ∧ Aside0 (Below w.heap.size w wr)) (fun _ x11 _ => 2 - (intOf x11).toNat)
  case atStart => exact ⟨0, by omega, rfl, ⟨rfl⟩, ⟨Below.refl _ _⟩⟩
  case round =>
    obtain ⟨j, hj, rfl, ⟨h3⟩, HB⟩ := hrel
    subst h3
    have x0 := (blk_cell (blk_below HC.out HB.out) 0).trans rfl
    have x1 := (blk_cell (blk_below HC.out HB.out) 1).trans rfl
    match j, hj with
    | 0, _ =>
      go_wp2
      go_roundw
      all_goals first | exact ⟨1, by omega, rfl, ⟨by simp⟩, HB⟩ | (simp [intOf]; done)
    | 1, _ =>
      go_wp2
      go_roundw
      all_goals first | exact ⟨2, by omega, rfl, ⟨by simp⟩, HB⟩ | (simp [intOf]; done)
    | 2, _ =>
      clear x0 x1
      go_wp2_with (go_at_call 35; refine (Grow_calls _ (p.length + q.length) hn).mono ?_; rintro e w1 ⟨v, rfl, ho, hb⟩; have HO := Aside0.mk (Kd.R_lower ho HB.out.size); have HB1 := Aside0.mk (HB.out.trans (hb.mono HB.out.size)); clear ho hb)
      have HO1 := HO
      clear HO HB
      go_loopw [6, 27] (fun v6 x27 wr => ∃ j : Nat, j ≤ 2 ∧ x27 = .int .i64 (j : Int) ∧ Aside0 (Kd.R k31 31 wr w.heap.size (fun _ => True) v6 (if j = 0 then [] else if j = 1 then p else p ++ q)) ∧ Aside0 (Below w.heap.size w wr)) (fun _ x27 _ => 2 - (intOf x27).toNat)
      case atStart => exact ⟨0, by omega, rfl, HO1, HB1⟩
      case round =>
        obtain ⟨j, hj, rfl, HO, HB⟩ := hrel
        have x0 := (blk_cell (blk_below HC.out HB.out) 0).trans rfl
        have x1 := (blk_cell (blk_below HC.out HB.out) 1).trans rfl
        match j, hj with
        | 0, _ =>
          have HO0 := Aside0.mk (show Kd.R k31 31 wr w.heap.size (fun _ => True) u6 ([] : List Ch) from by simpa using HO.out)
          clear HO
          have HO := HO0
          clear HO0
          go_wp2_with ((with_reducible refine gate_builtin (b := .append) (xs := #[.tmp 31, .tmp 32]) rfl ?_); at_builtin; refine Kd.R_append_rows k31 (w0 := w) w.heap.size rfl (.tmp 31) (.tmp 32) 22 31 (.agg #[.int .i64 0, .int .u64 0]) 16 rfl Try.underlying22 info31 rfl (by decide) (by omega) u6 [] p A p.length c (fun _ => True) (fun _ => False) rfl rfl HO.out (Kd.C_below HP.out HB.out) (fun x cs h => by rw [k31_open h]; exact k31_mkM _ _ _ x) (fun _ h => h.elim) (fun _ _ => trivial) HB.out (below_size HB.out) (by first | omega | (simp; omega)) ?_; intro v9 w9 ho hb hg hat; have HO9 := Aside0.mk ho; have HB9 := Aside0.mk hb; clear ho hb hg hat)
          go_roundw
          all_goals first | exact ⟨1, by omega, rfl, ⟨by simpa using HO9.out⟩, HB9⟩ | (simp [intOf]; done)
        | 1, _ =>
          have HO0 := Aside0.mk (show Kd.R k31 31 wr w.heap.size (fun _ => True) u6 p from by simpa using HO.out)
          clear HO
          have HO := HO0
          clear HO0
          go_wp2_with ((with_reducible refine gate_builtin (b := .append) (xs := #[.tmp 31, .tmp 32]) rfl ?_); at_builtin; refine Kd.R_append_rows k31 (w0 := w) w.heap.size rfl (.tmp 31) (.tmp 32) 22 31 (.agg #[.int .i64 0, .int .u64 0]) 16 rfl Try.underlying22 info31 rfl (by decide) (by omega) u6 p q B q.length d (fun _ => True) (fun _ => False) rfl rfl HO.out (Kd.C_below HQ.out HB.out) (fun x cs h => by rw [k31_open h]; exact k31_mkM _ _ _ x) (fun _ h => h.elim) (fun _ _ => trivial) HB.out (below_size HB.out) (by first | omega | (simp; omega)) ?_; intro v9 w9 ho hb hg hat; have HO9 := Aside0.mk ho; have HB9 := Aside0.mk hb; clear ho hb hg hat)
          go_roundw
          all_goals first | exact ⟨2, by omega, rfl, ⟨by simpa using HO9.out⟩, HB9⟩ | (simp [intOf]; done)
        | 2, _ =>
          clear x0 x1
          have ho := HO.out
          rw [if_neg (by decide), if_neg (by decide)] at ho
          have HO2 := Aside0.mk ho
          clear ho HO
          go_wp2
          go_ret
          exact ⟨_, rfl, HO2.out, HB.out⟩
end Go.Proofs.Ytldlacphokbgcaa.Jo
