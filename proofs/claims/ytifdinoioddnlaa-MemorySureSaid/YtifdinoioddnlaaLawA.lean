/- The statements' helpers: a step of a memory, and that it lives. -/
import Derived.Handy
import Derived.Test.YtifdinoioddnlaaMemI
import Derived.Test.YtifdinoioddnlaaPrint7
import Derived.Test.YtifdinoioddnlaaPrint8
namespace Go.Proofs.Ytifdinoioddnlaa.Mem
open Go Go.RowKit Go.Proofs.Ytifdinoioddnlaa.ML Go.Proofs.YtifdinoioddnlaaW.PrintWords Go.Proofs.YtifdinoioddnlaaW.PrintLast Go.Proofs.YtifdinoioddnlaaW.PrintMore Go.Proofs.Ytifdinoioddnlaa.Print
set_option linter.unusedVariables false
set_option linter.unusedSimpArgs false
theorem Bools.of_C {L : List Nat} {W w : World} {A : Option Addr} {n : Nat} {xs : List Bool} (h : Kd.C Kd.bool W A n xs) (hb : Below W.heap.size W w) (hL : ∀ b ∈ L, W.heap.size ≤ b) : Bools L w A n xs := by
  refine ⟨Kd.C_below h hb, fun h0 ad hA => ?_⟩
  obtain ⟨h1, h2, h3⟩ := h
  obtain ⟨ad', hA', h4⟩ := h3 h0
  rw [hA] at hA'
  obtain rfl := Option.some.inj hA'
  obtain ⟨c, c1, c2, c3⟩ := h4 0 (xs[0]'(by omega)) (List.getElem?_eq_getElem (by omega))
  have hc : W.cell? ad = some (.bool (xs[0]'(by omega))) := by
    have c2' : c = [Value.bool (xs[0]'(by omega))] := c2
    have := c3 0 _ (by rw [c2']; rfl)
    simpa [Addr.add] using this
  have hlt := World.block_lt_of_cell? W ad hc
  refine ⟨fun hm => ?_, Nat.lt_of_lt_of_le hlt hb.size⟩
  have := hL _ hm
  omega
/-- What kind a step is of. -/
def kindOf (x : Int) : Int := wrap64 (Int.tmod (IntKind.u64.wrap x) 6)
theorem kindOf_lt (x : Int) : 0 ≤ kindOf x ∧ kindOf x ≤ 5 := by
  unfold kindOf
  have h : 0 ≤ IntKind.u64.wrap x := by unfold IntKind.wrap; simp [IntKind.bits, IntKind.signed]; omega
  rw [Int.tmod_eq_emod_of_nonneg h]
  unfold wrap64
  omega
theorem kind_calls (x y z : Int) (A : Option Addr) (c : Nat) (l : List Bool) (w : World) (hr : Kd.C Kd.bool w A l.length l) (hc : l.length ≤ c) :
    Calls Try.prog 19 #[.agg #[.int .i64 x, .int .i64 y, .int .u64 z, .slice A l.length c]] w fun e w' => e = .returned (.int .i64 (kindOf x)) ∧ Below w.heap.size w w' :=
  escritoirelaw02_Op_kind.calls x y z A c l _ w hr hc rfl
/-- What a step does. -/
structure Does (S : MS) (o : S40) (e : Int) (S' : MS) : Prop where
  s0 : kindOf o.f0 = 0 → (e, S') = S.store o.f1 o.f2
  s1 : kindOf o.f0 = 1 → (e, S') = S.flush o.f1
  s2 : kindOf o.f0 = 2 → (e, S') = S.fence
  s3 : kindOf o.f0 = 3 → e = 0 ∧ S' = S.evict o.f1
  s4 : kindOf o.f0 = 4 → e = 0 ∧ S' = S.stop o.f1
  s5 : kindOf o.f0 = 5 → e = 0 ∧ Crashed S o.f3 S'
/-- Numbers in their kinds. -/
def okOp (o : S40) : Prop := oki o.f0 ∧ oki o.f1 ∧ okw o.f2 ∧ o.f3.length ≤ 140737488355328
abbrev opV (o : S40) (KA : Option Addr) (kc : Nat) : Value := .agg #[.int .i64 o.f0, .int .i64 o.f1, .int .u64 o.f2, .slice KA o.f3.length kc]
set_option maxHeartbeats 4000000 in
theorem does_calls {w : World} {f : Fp} {S : MS} (h : IsMem w f S) (o : S40) (ho : okOp o) (KA : Option Addr) (kc : Nat) (hk : Bools f.list w KA o.f3.length o.f3) (hkc : o.f3.length ≤ kc) :
    Calls Try.prog 20 #[ptr f, opV o KA kc] w fun e w' => ∃ q S', e = .returned (.int .i64 q) ∧ IsMem w' f S' ∧ Does S o q S' ∧ Turn f.list w w' := by
  obtain ⟨k, hkk⟩ : ∃ k, kindOf o.f0 = k := ⟨_, rfl⟩
  obtain ⟨k0, k1⟩ := kindOf_lt o.f0
  have HK := Aside0.mk hk
  have H := Aside0.mk h
  obtain ⟨o0, o1, o2, o3⟩ := ho
  have O1 := Aside0.mk o1
  have O2 := Aside0.mk o2
  have O3 := Aside0.mk o3
  have KC := Aside0.mk hkc
  have hcase : k = 0 ∨ k = 1 ∨ k = 2 ∨ k = 3 ∨ k = 4 ∨ k = 5 := by omega
  have HKK := Aside0.mk hkk
  have hkind : ∀ W, Kd.C Kd.bool W KA o.f3.length o.f3 → Calls Try.prog 19 #[.agg #[.int .i64 o.f0, .int .i64 o.f1, .int .u64 o.f2, .slice KA o.f3.length kc]] W fun e w' => e = .returned (.int .i64 k) ∧ Below W.heap.size W w' := by
    intro W hW
    rw [← hkk]
    exact kind_calls _ _ _ _ _ _ _ hW hkc
  have HKind := Aside0.mk hkind
  clear hk h o0 o1 o2 o3 hkc k0 k1 hkk hkind
  rcases hcase with rfl | rfl | rfl | rfl | rfl | rfl
  · go_enter Try.func20, Try.ntmps20
    go_wp2_with (first
      | (go_at_call 19; refine (HKind.out _ (by exact Kd.C_below HK.out.1 ((Below.refl _ _).alloc (Nat.le_refl _) _))).mono ?_; rintro e w1 ⟨rfl, hb⟩;
            have hbw : Below w.heap.size w w1 := ((Below.refl _ _).alloc (Nat.le_refl _) _).trans (hb.mono (by simp));
            have x1 : w1.cell? ⟨w.heap.size, 1, none⟩ = some (.int .i64 o.f1) := (hb.cell (p := ⟨w.heap.size, 1, none⟩) (by simp)).trans (cell_of (heap_new w _) rfl);
            have x2 : w1.cell? ⟨w.heap.size, 2, none⟩ = some (.int .u64 o.f2) := (hb.cell (p := ⟨w.heap.size, 2, none⟩) (by simp)).trans (cell_of (heap_new w _) rfl);
            have x3 : w1.cell? ⟨w.heap.size, 3, none⟩ = some (.slice KA o.f3.length kc) := (hb.cell (p := ⟨w.heap.size, 3, none⟩) (by simp)).trans (cell_of (heap_new w _) rfl);
            have H1 := Aside0.mk (H.out.below hbw); have K1 := Aside0.mk (HK.out.kept (Turn.of_below hbw _)); have B1 := Aside0.mk hbw; clear hb hbw)
      | (go_at_call 25; refine (Store_calls H1.out o.f1 o.f2 O1.out O2.out).mono ?_; rintro e w2 ⟨rfl, h2, t2⟩; have H2 := Aside0.mk h2; have T2 := Aside0.mk t2; clear h2 t2))
    go_returns
    exact ⟨_, _, rfl, H2.out, ⟨(fun _ => rfl), (fun e => by rw [HKK.out] at e; cases e), (fun e => by rw [HKK.out] at e; cases e), (fun e => by rw [HKK.out] at e; cases e), (fun e => by rw [HKK.out] at e; cases e), (fun e => by rw [HKK.out] at e; cases e)⟩, (Turn.of_below B1.out _).trans T2.out⟩
  · go_enter Try.func20, Try.ntmps20
    go_wp2_with (first
      | (go_at_call 19; refine (HKind.out _ (by exact Kd.C_below HK.out.1 ((Below.refl _ _).alloc (Nat.le_refl _) _))).mono ?_; rintro e w1 ⟨rfl, hb⟩;
            have hbw : Below w.heap.size w w1 := ((Below.refl _ _).alloc (Nat.le_refl _) _).trans (hb.mono (by simp));
            have x1 : w1.cell? ⟨w.heap.size, 1, none⟩ = some (.int .i64 o.f1) := (hb.cell (p := ⟨w.heap.size, 1, none⟩) (by simp)).trans (cell_of (heap_new w _) rfl);
            have x2 : w1.cell? ⟨w.heap.size, 2, none⟩ = some (.int .u64 o.f2) := (hb.cell (p := ⟨w.heap.size, 2, none⟩) (by simp)).trans (cell_of (heap_new w _) rfl);
            have x3 : w1.cell? ⟨w.heap.size, 3, none⟩ = some (.slice KA o.f3.length kc) := (hb.cell (p := ⟨w.heap.size, 3, none⟩) (by simp)).trans (cell_of (heap_new w _) rfl);
            have H1 := Aside0.mk (H.out.below hbw); have K1 := Aside0.mk (HK.out.kept (Turn.of_below hbw _)); have B1 := Aside0.mk hbw; clear hb hbw)
      | (go_at_call 21; refine (Flush_calls H1.out o.f1 O1.out).mono ?_; rintro e w2 ⟨rfl, h2, t2⟩; have H2 := Aside0.mk h2; have T2 := Aside0.mk t2; clear h2 t2))
    go_returns
    exact ⟨_, _, rfl, H2.out, ⟨(fun e => by rw [HKK.out] at e; cases e), (fun _ => rfl), (fun e => by rw [HKK.out] at e; cases e), (fun e => by rw [HKK.out] at e; cases e), (fun e => by rw [HKK.out] at e; cases e), (fun e => by rw [HKK.out] at e; cases e)⟩, (Turn.of_below B1.out _).trans T2.out⟩
  · go_enter Try.func20, Try.ntmps20
    go_wp2_with (first
      | (go_at_call 19; refine (HKind.out _ (by exact Kd.C_below HK.out.1 ((Below.refl _ _).alloc (Nat.le_refl _) _))).mono ?_; rintro e w1 ⟨rfl, hb⟩;
            have hbw : Below w.heap.size w w1 := ((Below.refl _ _).alloc (Nat.le_refl _) _).trans (hb.mono (by simp));
            have x1 : w1.cell? ⟨w.heap.size, 1, none⟩ = some (.int .i64 o.f1) := (hb.cell (p := ⟨w.heap.size, 1, none⟩) (by simp)).trans (cell_of (heap_new w _) rfl);
            have x2 : w1.cell? ⟨w.heap.size, 2, none⟩ = some (.int .u64 o.f2) := (hb.cell (p := ⟨w.heap.size, 2, none⟩) (by simp)).trans (cell_of (heap_new w _) rfl);
            have x3 : w1.cell? ⟨w.heap.size, 3, none⟩ = some (.slice KA o.f3.length kc) := (hb.cell (p := ⟨w.heap.size, 3, none⟩) (by simp)).trans (cell_of (heap_new w _) rfl);
            have H1 := Aside0.mk (H.out.below hbw); have K1 := Aside0.mk (HK.out.kept (Turn.of_below hbw _)); have B1 := Aside0.mk hbw; clear hb hbw)
      | (go_at_call 22; refine (Fence_calls H1.out).mono ?_; rintro e w2 ⟨rfl, h2, t2⟩; have H2 := Aside0.mk h2; have T2 := Aside0.mk t2; clear h2 t2))
    go_returns
    exact ⟨_, _, rfl, H2.out, ⟨(fun e => by rw [HKK.out] at e; cases e), (fun e => by rw [HKK.out] at e; cases e), (fun _ => rfl), (fun e => by rw [HKK.out] at e; cases e), (fun e => by rw [HKK.out] at e; cases e), (fun e => by rw [HKK.out] at e; cases e)⟩, (Turn.of_below B1.out _).trans T2.out⟩
  · go_enter Try.func20, Try.ntmps20
    go_wp2_with (first
      | (go_at_call 19; refine (HKind.out _ (by exact Kd.C_below HK.out.1 ((Below.refl _ _).alloc (Nat.le_refl _) _))).mono ?_; rintro e w1 ⟨rfl, hb⟩;
            have hbw : Below w.heap.size w w1 := ((Below.refl _ _).alloc (Nat.le_refl _) _).trans (hb.mono (by simp));
            have x1 : w1.cell? ⟨w.heap.size, 1, none⟩ = some (.int .i64 o.f1) := (hb.cell (p := ⟨w.heap.size, 1, none⟩) (by simp)).trans (cell_of (heap_new w _) rfl);
            have x2 : w1.cell? ⟨w.heap.size, 2, none⟩ = some (.int .u64 o.f2) := (hb.cell (p := ⟨w.heap.size, 2, none⟩) (by simp)).trans (cell_of (heap_new w _) rfl);
            have x3 : w1.cell? ⟨w.heap.size, 3, none⟩ = some (.slice KA o.f3.length kc) := (hb.cell (p := ⟨w.heap.size, 3, none⟩) (by simp)).trans (cell_of (heap_new w _) rfl);
            have H1 := Aside0.mk (H.out.below hbw); have K1 := Aside0.mk (HK.out.kept (Turn.of_below hbw _)); have B1 := Aside0.mk hbw; clear hb hbw)
      | (go_at_call 26; refine (Evict_calls H1.out o.f1 O1.out).mono ?_; rintro e w2 ⟨rfl, h2, t2⟩; have H2 := Aside0.mk h2; have T2 := Aside0.mk t2; clear h2 t2))
    go_returns
    exact ⟨_, _, rfl, H2.out, ⟨(fun e => by rw [HKK.out] at e; cases e), (fun e => by rw [HKK.out] at e; cases e), (fun e => by rw [HKK.out] at e; cases e), (fun _ => ⟨rfl, rfl⟩), (fun e => by rw [HKK.out] at e; cases e), (fun e => by rw [HKK.out] at e; cases e)⟩, (Turn.of_below B1.out _).trans T2.out⟩
  · go_enter Try.func20, Try.ntmps20
    go_wp2_with (first
      | (go_at_call 19; refine (HKind.out _ (by exact Kd.C_below HK.out.1 ((Below.refl _ _).alloc (Nat.le_refl _) _))).mono ?_; rintro e w1 ⟨rfl, hb⟩;
            have hbw : Below w.heap.size w w1 := ((Below.refl _ _).alloc (Nat.le_refl _) _).trans (hb.mono (by simp));
            have x1 : w1.cell? ⟨w.heap.size, 1, none⟩ = some (.int .i64 o.f1) := (hb.cell (p := ⟨w.heap.size, 1, none⟩) (by simp)).trans (cell_of (heap_new w _) rfl);
            have x2 : w1.cell? ⟨w.heap.size, 2, none⟩ = some (.int .u64 o.f2) := (hb.cell (p := ⟨w.heap.size, 2, none⟩) (by simp)).trans (cell_of (heap_new w _) rfl);
            have x3 : w1.cell? ⟨w.heap.size, 3, none⟩ = some (.slice KA o.f3.length kc) := (hb.cell (p := ⟨w.heap.size, 3, none⟩) (by simp)).trans (cell_of (heap_new w _) rfl);
            have H1 := Aside0.mk (H.out.below hbw); have K1 := Aside0.mk (HK.out.kept (Turn.of_below hbw _)); have B1 := Aside0.mk hbw; clear hb hbw)
      | (go_at_call 23; refine (Stop_calls H1.out o.f1 O1.out).mono ?_; rintro e w2 ⟨rfl, h2, t2⟩; have H2 := Aside0.mk h2; have T2 := Aside0.mk t2; clear h2 t2))
    go_returns
    exact ⟨_, _, rfl, H2.out, ⟨(fun e => by rw [HKK.out] at e; cases e), (fun e => by rw [HKK.out] at e; cases e), (fun e => by rw [HKK.out] at e; cases e), (fun e => by rw [HKK.out] at e; cases e), (fun _ => ⟨rfl, rfl⟩), (fun e => by rw [HKK.out] at e; cases e)⟩, (Turn.of_below B1.out _).trans T2.out⟩
  · go_enter Try.func20, Try.ntmps20
    go_wp2_with (first
      | (go_at_call 19; refine (HKind.out _ (by exact Kd.C_below HK.out.1 ((Below.refl _ _).alloc (Nat.le_refl _) _))).mono ?_; rintro e w1 ⟨rfl, hb⟩;
            have hbw : Below w.heap.size w w1 := ((Below.refl _ _).alloc (Nat.le_refl _) _).trans (hb.mono (by simp));
            have x1 : w1.cell? ⟨w.heap.size, 1, none⟩ = some (.int .i64 o.f1) := (hb.cell (p := ⟨w.heap.size, 1, none⟩) (by simp)).trans (cell_of (heap_new w _) rfl);
            have x2 : w1.cell? ⟨w.heap.size, 2, none⟩ = some (.int .u64 o.f2) := (hb.cell (p := ⟨w.heap.size, 2, none⟩) (by simp)).trans (cell_of (heap_new w _) rfl);
            have x3 : w1.cell? ⟨w.heap.size, 3, none⟩ = some (.slice KA o.f3.length kc) := (hb.cell (p := ⟨w.heap.size, 3, none⟩) (by simp)).trans (cell_of (heap_new w _) rfl);
            have H1 := Aside0.mk (H.out.below hbw); have K1 := Aside0.mk (HK.out.kept (Turn.of_below hbw _)); have B1 := Aside0.mk hbw; clear hb hbw)
      | (go_at_call 12; refine (Crash_calls H1.out KA kc o.f3 K1.out (by have := O3.out; omega)).mono ?_; rintro e w2 ⟨rfl, ⟨S2, h2, hc2⟩, t2⟩; have H2 := Aside0.mk h2; have C2 := Aside0.mk hc2; have T2 := Aside0.mk t2; clear h2 t2 hc2))
    go_returns
    exact ⟨_, S2, rfl, H2.out, ⟨(fun e => by rw [HKK.out] at e; cases e), (fun e => by rw [HKK.out] at e; cases e), (fun e => by rw [HKK.out] at e; cases e), (fun e => by rw [HKK.out] at e; cases e), (fun e => by rw [HKK.out] at e; cases e), (fun _ => ⟨rfl, C2.out⟩)⟩, (Turn.of_below B1.out _).trans T2.out⟩
set_option maxHeartbeats 2000000 in
/-- A step of no memory. -/
theorem does_nil (w : World) (o : S40) (KA : Option Addr) (kc : Nat) (hk : Kd.C Kd.bool w KA o.f3.length o.f3) (hkc : o.f3.length ≤ kc) :
    Calls Try.prog 20 #[.pointer none, opV o KA kc] w fun e w' => e = .returned (.int .i64 (if kindOf o.f0 < 3 then 1 else 0)) ∧ Below w.heap.size w w' := by
  obtain ⟨k, hkk⟩ : ∃ k, kindOf o.f0 = k := ⟨_, rfl⟩
  obtain ⟨k0, k1⟩ := kindOf_lt o.f0
  have hcase : k = 0 ∨ k = 1 ∨ k = 2 ∨ k = 3 ∨ k = 4 ∨ k = 5 := by omega
  have hkind : ∀ W, Kd.C Kd.bool W KA o.f3.length o.f3 → Calls Try.prog 19 #[.agg #[.int .i64 o.f0, .int .i64 o.f1, .int .u64 o.f2, .slice KA o.f3.length kc]] W fun e w' => e = .returned (.int .i64 k) ∧ Below W.heap.size W w' := by
    intro W hW
    rw [← hkk]
    exact kind_calls _ _ _ _ _ _ _ hW hkc
  rw [hkk]
  have HKind := Aside0.mk hkind
  have HK := Aside0.mk hk
  clear hk hkc k0 k1 hkk hkind
  rcases hcase with rfl | rfl | rfl | rfl | rfl | rfl
  · go_enter Try.func20, Try.ntmps20
    go_wp2_with (first
      | (go_at_call 19; refine (HKind.out _ (by exact Kd.C_below HK.out ((Below.refl _ _).alloc (Nat.le_refl _) _))).mono ?_; rintro e w1 ⟨rfl, hb⟩;
            have hbw : Below w.heap.size w w1 := ((Below.refl _ _).alloc (Nat.le_refl _) _).trans (hb.mono (by simp));
            have x1 : w1.cell? ⟨w.heap.size, 1, none⟩ = some (.int .i64 o.f1) := (hb.cell (p := ⟨w.heap.size, 1, none⟩) (by simp)).trans (cell_of (heap_new w _) rfl);
            have x2 : w1.cell? ⟨w.heap.size, 2, none⟩ = some (.int .u64 o.f2) := (hb.cell (p := ⟨w.heap.size, 2, none⟩) (by simp)).trans (cell_of (heap_new w _) rfl);
            have x3 : w1.cell? ⟨w.heap.size, 3, none⟩ = some (.slice KA o.f3.length kc) := (hb.cell (p := ⟨w.heap.size, 3, none⟩) (by simp)).trans (cell_of (heap_new w _) rfl);
            have B1 := Aside0.mk hbw; clear hb hbw)
      | (go_at_call 25; refine (Store_nil _ _ _).mono ?_; rintro e w2 ⟨rfl, rfl⟩))
    go_returns
    exact ⟨rfl, B1.out⟩
  · go_enter Try.func20, Try.ntmps20
    go_wp2_with (first
      | (go_at_call 19; refine (HKind.out _ (by exact Kd.C_below HK.out ((Below.refl _ _).alloc (Nat.le_refl _) _))).mono ?_; rintro e w1 ⟨rfl, hb⟩;
            have hbw : Below w.heap.size w w1 := ((Below.refl _ _).alloc (Nat.le_refl _) _).trans (hb.mono (by simp));
            have x1 : w1.cell? ⟨w.heap.size, 1, none⟩ = some (.int .i64 o.f1) := (hb.cell (p := ⟨w.heap.size, 1, none⟩) (by simp)).trans (cell_of (heap_new w _) rfl);
            have x2 : w1.cell? ⟨w.heap.size, 2, none⟩ = some (.int .u64 o.f2) := (hb.cell (p := ⟨w.heap.size, 2, none⟩) (by simp)).trans (cell_of (heap_new w _) rfl);
            have x3 : w1.cell? ⟨w.heap.size, 3, none⟩ = some (.slice KA o.f3.length kc) := (hb.cell (p := ⟨w.heap.size, 3, none⟩) (by simp)).trans (cell_of (heap_new w _) rfl);
            have B1 := Aside0.mk hbw; clear hb hbw)
      | (go_at_call 21; refine (Flush_nil _ _).mono ?_; rintro e w2 ⟨rfl, rfl⟩))
    go_returns
    exact ⟨rfl, B1.out⟩
  · go_enter Try.func20, Try.ntmps20
    go_wp2_with (first
      | (go_at_call 19; refine (HKind.out _ (by exact Kd.C_below HK.out ((Below.refl _ _).alloc (Nat.le_refl _) _))).mono ?_; rintro e w1 ⟨rfl, hb⟩;
            have hbw : Below w.heap.size w w1 := ((Below.refl _ _).alloc (Nat.le_refl _) _).trans (hb.mono (by simp));
            have x1 : w1.cell? ⟨w.heap.size, 1, none⟩ = some (.int .i64 o.f1) := (hb.cell (p := ⟨w.heap.size, 1, none⟩) (by simp)).trans (cell_of (heap_new w _) rfl);
            have x2 : w1.cell? ⟨w.heap.size, 2, none⟩ = some (.int .u64 o.f2) := (hb.cell (p := ⟨w.heap.size, 2, none⟩) (by simp)).trans (cell_of (heap_new w _) rfl);
            have x3 : w1.cell? ⟨w.heap.size, 3, none⟩ = some (.slice KA o.f3.length kc) := (hb.cell (p := ⟨w.heap.size, 3, none⟩) (by simp)).trans (cell_of (heap_new w _) rfl);
            have B1 := Aside0.mk hbw; clear hb hbw)
      | (go_at_call 22; refine (Fence_nil _).mono ?_; rintro e w2 ⟨rfl, rfl⟩))
    go_returns
    exact ⟨rfl, B1.out⟩
  · go_enter Try.func20, Try.ntmps20
    go_wp2_with (first
      | (go_at_call 19; refine (HKind.out _ (by exact Kd.C_below HK.out ((Below.refl _ _).alloc (Nat.le_refl _) _))).mono ?_; rintro e w1 ⟨rfl, hb⟩;
            have hbw : Below w.heap.size w w1 := ((Below.refl _ _).alloc (Nat.le_refl _) _).trans (hb.mono (by simp));
            have x1 : w1.cell? ⟨w.heap.size, 1, none⟩ = some (.int .i64 o.f1) := (hb.cell (p := ⟨w.heap.size, 1, none⟩) (by simp)).trans (cell_of (heap_new w _) rfl);
            have x2 : w1.cell? ⟨w.heap.size, 2, none⟩ = some (.int .u64 o.f2) := (hb.cell (p := ⟨w.heap.size, 2, none⟩) (by simp)).trans (cell_of (heap_new w _) rfl);
            have x3 : w1.cell? ⟨w.heap.size, 3, none⟩ = some (.slice KA o.f3.length kc) := (hb.cell (p := ⟨w.heap.size, 3, none⟩) (by simp)).trans (cell_of (heap_new w _) rfl);
            have B1 := Aside0.mk hbw; clear hb hbw)
      | (go_at_call 26; refine (Evict_nil _ _).mono ?_; rintro e w2 ⟨rfl, rfl⟩))
    go_returns
    exact ⟨rfl, B1.out⟩
  · go_enter Try.func20, Try.ntmps20
    go_wp2_with (first
      | (go_at_call 19; refine (HKind.out _ (by exact Kd.C_below HK.out ((Below.refl _ _).alloc (Nat.le_refl _) _))).mono ?_; rintro e w1 ⟨rfl, hb⟩;
            have hbw : Below w.heap.size w w1 := ((Below.refl _ _).alloc (Nat.le_refl _) _).trans (hb.mono (by simp));
            have x1 : w1.cell? ⟨w.heap.size, 1, none⟩ = some (.int .i64 o.f1) := (hb.cell (p := ⟨w.heap.size, 1, none⟩) (by simp)).trans (cell_of (heap_new w _) rfl);
            have x2 : w1.cell? ⟨w.heap.size, 2, none⟩ = some (.int .u64 o.f2) := (hb.cell (p := ⟨w.heap.size, 2, none⟩) (by simp)).trans (cell_of (heap_new w _) rfl);
            have x3 : w1.cell? ⟨w.heap.size, 3, none⟩ = some (.slice KA o.f3.length kc) := (hb.cell (p := ⟨w.heap.size, 3, none⟩) (by simp)).trans (cell_of (heap_new w _) rfl);
            have B1 := Aside0.mk hbw; clear hb hbw)
      | (go_at_call 23; refine (Stop_nil _ _).mono ?_; rintro e w2 ⟨rfl, rfl⟩))
    go_returns
    exact ⟨rfl, B1.out⟩
  · go_enter Try.func20, Try.ntmps20
    go_wp2_with (first
      | (go_at_call 19; refine (HKind.out _ (by exact Kd.C_below HK.out ((Below.refl _ _).alloc (Nat.le_refl _) _))).mono ?_; rintro e w1 ⟨rfl, hb⟩;
            have hbw : Below w.heap.size w w1 := ((Below.refl _ _).alloc (Nat.le_refl _) _).trans (hb.mono (by simp));
            have x1 : w1.cell? ⟨w.heap.size, 1, none⟩ = some (.int .i64 o.f1) := (hb.cell (p := ⟨w.heap.size, 1, none⟩) (by simp)).trans (cell_of (heap_new w _) rfl);
            have x2 : w1.cell? ⟨w.heap.size, 2, none⟩ = some (.int .u64 o.f2) := (hb.cell (p := ⟨w.heap.size, 2, none⟩) (by simp)).trans (cell_of (heap_new w _) rfl);
            have x3 : w1.cell? ⟨w.heap.size, 3, none⟩ = some (.slice KA o.f3.length kc) := (hb.cell (p := ⟨w.heap.size, 3, none⟩) (by simp)).trans (cell_of (heap_new w _) rfl);
            have B1 := Aside0.mk hbw; clear hb hbw)
      | (go_at_call 12; refine (Crash_nil _ _ _ _).mono ?_; rintro e w2 ⟨rfl, rfl⟩))
    go_returns
    exact ⟨rfl, B1.out⟩
end Go.Proofs.Ytifdinoioddnlaa.Mem
