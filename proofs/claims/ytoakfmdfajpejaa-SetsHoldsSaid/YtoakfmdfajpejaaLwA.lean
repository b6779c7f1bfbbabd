/- Sets of files: the laws' word. -/
import Derived.Test.YtoakfmdfajpejaaSetD
namespace Go.Proofs.Ytoakfmdfajpejaa.Sets
open Go Go.Maps Go.RowKit Go.Proofs.Ytoakfmdfajpejaa.ML Go.Proofs.Ytoakfmdfajpejaa.Print Go.Proofs.YtoakfmdfajpejaaW.PrintWords Go.Proofs.YtoakfmdfajpejaaW.PrintLast Go.Proofs.YtoakfmdfajpejaaW.PrintMore
set_option linter.unusedVariables false
set_option linter.unusedSimpArgs false
section ins
variable {P : Program} {e : TypeId} {α : Type} (x : EK P e α) {k t : TypeId} {w : World} {b : Nat} {m : List (Int × α)} {ops : Array Oper} {rest : List Oper} {o : Oper} {a : Act} {Q : Exit → Act → World → Prop}
theorem wp_ins (T : MT P t k e) (hg : o.guard = none) (mo xo vo : Operand) (hop : o.op = Op.insert t mo xo vo) (hm : a.eval mo = .map (some b)) (h : IsM x k w b m) (hn : m.length < 4611686018427387904) (key : Int) (v : α) (hx : a.eval xo = .int .i64 key) (hv : a.eval vo = x.val v) (hkey : (Lit.int .i64 key).wf = true) (hok : x.ok v)
    (hK : ∀ w', IsM x k w' b (put m key v) → w.mapTurned w' b → wpList P ops Q rest (a.put o.dst undef) w') : wpList P ops Q (o :: rest) a w := by
  refine wpList_plain hg fun K' hK' => ?_
  obtain ⟨w', hrun, r1, r2⟩ := World.ownsMap.store h T.keyed T.ht (show m.length < maxLen by unfold maxLen; omega) (keyOf_int_mk T.hk hkey) (x.plain _ hok)
  unfold Oper.wp
  simp [execOp, hop, hm, hx, hv, hrun, Result.andThen]
  exact hK' _ _ (hK w' (IsM.of (by rw [← D_put]; exact r1)) r2)
end ins
theorem gate_ins {P : Program} {Q : Exit → Act → World → Prop} {t : TypeId} {mo xo vo : Operand} {d : Option Nat} {ty : TypeId} {ps : String} {af : Array Edge} {g : Option (Nat × Bool)} {ops : Array Oper} {rest : List Oper} {a : Act} {w : World}
    (h : wpList P ops Q ({ dst := d, op := Op.insert t mo xo vo, type := ty, pos := ps, after := af, guard := g } :: rest) a w) : wpList P ops Q ({ dst := d, op := Op.insert t mo xo vo, type := ty, pos := ps, after := af, guard := g } :: rest) a w := h
theorem ekI_val (v : Int) : ekI.val v = .int .i64 v := rfl
theorem ekU_val (v : Int) : ekU.val v = .int .u64 v := rfl
theorem ekI_zero : ekI.zero = (0 : Int) := rfl
theorem ekU_zero : ekU.zero = (0 : Int) := rfl
theorem reads_C {q : IntKind} {e : TypeId} {w : World} {base : Nat} {ok : Nat → Prop} {A : Option Addr} {n cap : Nat} {xs : List Int} (h : Kd.R (Kd.int q) e w base ok (.slice A n cap) xs) : n = xs.length ∧ Kd.C (Kd.int q) w A xs.length xs ∧ xs.length ≤ cap := by
  obtain ⟨A', cap', hv, hc, hC⟩ := Kd.R_reads h
  injection hv with e1 e2 e3
  subst e1 e3
  exact ⟨e2, hC, hc⟩
theorem slice_of {q : IntKind} {e : TypeId} {w : World} {base : Nat} {ok : Nat → Prop} {v : Value} {xs : List Int} (h : Kd.R (Kd.int q) e w base ok v xs) : ∃ A c, v = .slice A xs.length c ∧ Kd.C (Kd.int q) w A xs.length xs ∧ xs.length ≤ c := by
  obtain ⟨A', cap', hv, hc, hC⟩ := Kd.R_reads h
  exact ⟨A', cap', hv, hC, hc⟩
theorem keep_ins {P : Program} {e : TypeId} {α : Type} {x : EK P e α} {k : TypeId} {w w' : World} {b : Nat} {m : List (Int × α)} (h : IsM x k w b m) (ht : (w.alloc (.map #[] 0)).mapTurned w' w.heap.size) : IsM x k w' b m :=
  h.block (((turned_of ht).block b (by have := h.lt; simp; omega) (by have := h.lt; simp; omega)).trans (Below.heap_alloc _ _ _ h.lt))
theorem tk (m : List (Int × Int)) (me : Int) (l : List Int) (hm : m = [(2, 7)]) (hl : l = [2, 3]) (h : me = 7) : freeL m me l = true ∧ (takeL m me l).length = 2 ∧ get (takeL m me l) 3 = some 7 := by
  subst hm; subst hl; subst h
  decide
theorem tn (m : List (Int × Int)) (me : Int) (l : List Int) (hm : m = [(2, 7)]) (hl : l = [2, 3]) (h : me = 8) : freeL m me l = false := by
  subst hm; subst hl; subst h
  decide
set_option maxHeartbeats 2000000 in
theorem lives_calls (w : World) : Calls Try.prog 7 #[] w fun e w' => e = .returned (.bool true) ∧ Below w.heap.size w w' := by
  have hmm := @run_makeMap Try.prog
  have HM0 := Aside0.mk (fun w : World => IsM.made (x := ekI) (k := 3) w)
  have HI := Aside0.mk (show ∀ k ∈ ([2, 3] : List Int), okn k by intro k hk; simp at hk; rcases hk with rfl | rfl <;> exact okn_iff.2 (by omega))
  have E1 := Aside0.mk (tk (put [] 2 7) 7 [2, 3] rfl rfl rfl)
  have E2 := Aside0.mk (tn (put [] 2 7) 8 [2, 3] rfl rfl rfl)
  go_enter Try.func7, Try.ntmps7
  go_wp2_with (first
    | ((with_reducible refine gate_ins (mo := .tmp 6) ?_); refine wp_ins ekI mtHolds rfl _ _ _ rfl rfl (HM0.out _) (by decide) 2 7 rfl rfl (okn_iff.2 (by omega)) (okn_iff.2 (by omega)) ?_; intro w1 hm ht; have M1 := Aside0.mk hm; have B1 := Aside0.mk (((Below.refl w.heap.size w).alloc (Nat.le_refl _) (.map #[] 0)).grown (turned_of ht) (by simp) (fun x hx => by cases hx; exact Nat.le_refl _)); clear hm ht)
    | ((with_reducible refine gate_dst (N := 8) rfl ?_); refine Kd.R_lit (Kd.int .i64) _ 3 ?hg (N := 8) ?hd (xs := [2, 3]) (inner := [.int .i64 2, .int .i64 3]) (ok := fun _ => True) (okp := fun _ => True) ?hr ?hp (fun _ hk => hk) trivial (Below.refl _ _) (Nat.le_refl _) (by simp) ?_; (case hd => rfl); (case hg => rfl); (case hr => first | (go_simp; done) | (go_simp; rfl)); (case hp => exact (Reps.one rfl (Reps.one rfl (Reps.none _ _)))); intro v2 w2 ho hb hg_ hnew_; obtain ⟨A2, c2, rfl, hC, hc⟩ := slice_of ho; have C2 := Aside0.mk hC; have M2 := Aside0.mk (IsMbelow M1.out M1.out.lt hb); have B2 := Aside0.mk (B1.out.trans (hb.mono B1.out.size)); clear ho hb hg_ hnew_ hC hc)
    | (go_at_call 16; have h5_ := M5; clear h5_; refine (Take_calls (m := put [] 2 7) (Or.inr ⟨_, rfl, M5.out⟩) (by decide) C5.out (by decide) HI.out 8 (okn_iff.2 (by omega))).mono ?_; rintro e w6 ⟨b6, rfl, hb0, hm, hb⟩; rw [E2.out]; have M6 := Aside0.mk (IsMbelow K5.out K5.out.lt hb); have B6 := Aside0.mk (B5.out.trans (hb.mono B5.out.size)); clear hm hb hb0)
    | (go_at_call 16; refine (Take_calls (m := put [] 2 7) (Or.inr ⟨_, rfl, M2.out⟩) (by decide) C2.out (by decide) HI.out 7 (okn_iff.2 (by omega))).mono ?_; rintro e w3 ⟨b3, rfl, hb0, hm, hb⟩; rw [E1.out.1]; have M3 := Aside0.mk hm; have B3 := Aside0.mk (B2.out.trans (hb.mono B2.out.size)); clear hm hb hb0)
    | ((with_reducible refine gate_ins (mo := .tmp 13) ?_); refine wp_ins ekI mtHolds rfl _ _ _ rfl rfl (HM0.out _) (by decide) 2 7 rfl rfl (okn_iff.2 (by omega)) (okn_iff.2 (by omega)) ?_; intro w4 hm ht; have M4 := Aside0.mk hm; have B4 := Aside0.mk ((B3.out.alloc B3.out.size (.map #[] 0)).grown (turned_of ht) (Nat.le_trans B3.out.size (by simp)) (fun x hx => by cases hx; exact B3.out.size)); have K4 := Aside0.mk (keep_ins M3.out ht); clear hm ht)
    | ((with_reducible refine gate_dst (N := 15) rfl ?_); refine Kd.R_lit (Kd.int .i64) _ 3 ?hg (N := 15) ?hd (xs := [2, 3]) (inner := [.int .i64 2, .int .i64 3]) (ok := fun _ => True) (okp := fun _ => True) ?hr ?hp (fun _ hk => hk) trivial (Below.refl _ _) (Nat.le_refl _) (by simp) ?_; (case hd => rfl); (case hg => rfl); (case hr => first | (go_simp; done) | (go_simp; rfl)); (case hp => exact (Reps.one rfl (Reps.one rfl (Reps.none _ _)))); intro v5 w5 ho hb hg_ hnew_; obtain ⟨A5, c5, rfl, hC, hc⟩ := slice_of ho; have C5 := Aside0.mk hC; have M5 := Aside0.mk (IsMbelow M4.out M4.out.lt hb); have K5 := Aside0.mk (IsMbelow K4.out K4.out.lt hb); have B5 := Aside0.mk (B4.out.trans (hb.mono B4.out.size)); clear ho hb hg_ hnew_ hC hc)
    | ((with_reducible refine gate_dst (N := 26) rfl ?_); refine gate_guard (by rfl) ?_; dsimp only; refine wp_len (x := ekI) mtHolds rfl _ rfl rfl M6.out ?_; rw [E1.out.2.1])
    | (at_lookup; refine gate_guard (by rfl) ?_; dsimp only; refine wp_look (x := ekI) mtHolds rfl _ _ rfl rfl M6.out 3 rfl (okn_iff.2 (by omega)) ?_; rw [E1.out.2.2, Option.getD_some, ekI_val])
    | (go_at_call 11; refine Fresh_nil.mono ?_; rintro e w7 ⟨rfl, hb⟩; have B7 := Aside0.mk (B6.out.trans (hb.mono B6.out.size)); clear hb))
  go_ret
  exact ⟨rfl, B7.out⟩
end Go.Proofs.Ytoakfmdfajpejaa.Sets
