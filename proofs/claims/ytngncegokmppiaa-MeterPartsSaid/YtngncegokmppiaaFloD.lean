/- Rows of floats: sums, means. -/
import Derived.Test.YtngncegokmppiaaFloC
namespace Go.Proofs.Ytngncegokmppiaa.Flo
open Go Go.RowKit Go.Proofs.YtngncegokmppiaaW.PrintWords Go.Proofs.YtngncegokmppiaaW.PrintLast Go.Proofs.YtngncegokmppiaaW.PrintMore
set_option linter.unusedVariables false
set_option linter.unusedSimpArgs false
abbrev kF : Kd Nat := Kd.scalar (Value.float .f64) (fun _ => rfl)
theorem flo_at {w : World} {A : Option Addr} {n : Nat} {l : List Nat} (h : Kd.C kF w A n l) (i : Nat) (hi : i < n) : ∃ ad x, A = some ad ∧ l[i]? = some x ∧ w.cell? (ad.add i) = some (.float .f64 x) := by
  obtain ⟨h1, h2, h3⟩ := h
  obtain ⟨ad, hA, h4⟩ := h3 (by omega)
  obtain ⟨x, hx⟩ : ∃ x, l[i]? = some x := ⟨_, List.getElem?_eq_getElem (by omega)⟩
  obtain ⟨cs, e1, e2, h5⟩ := h4 i x hx
  have e3 : cs = [Value.float .f64 x] := e2
  subst e3
  have h6 := h5 0 (.float .f64 x) rfl
  refine ⟨ad, x, hA, hx, ?_⟩
  rw [show i * kF.sz + 0 = i from by show i * 1 + 0 = i; omega] at h6
  exact h6
def sumC (cs : List (Option Nat)) : Option Nat := cs.foldl (fop .add) (some 0)
theorem sumC_snoc (cs : List (Option Nat)) (c : Option Nat) : sumC (cs ++ [c]) = fop .add (sumC cs) c := by simp [sumC]
theorem cv0 : cv 0 = some 0 := by decide
section
variable {P : Program} {ops : Array Oper} {rest : List Oper} {o : Oper} {a : Act} {Q : Exit → Act → World → Prop} {W : World}
/-- A float operation as an event: some number, told by its value. -/
theorem fop_event (hgd : o.guard = none) {N : Tmp} (hd : o.dst = some N) {op : BinOp} {t t' : TypeId} {xo yo : Operand} (ho : o.op = Op.binOp op t xo yo t') (hop : op = .add ∨ op = .sub ∨ op = .mul ∨ op = .quo) {x y : Nat} (hx : a.eval xo = .float .f64 x) (hy : a.eval yo = .float .f64 y)
    (h : ∀ r w', cv r = fop op (cv x) (cv y) → Below W.heap.size W w' → (w' = W ∨ w' = W.drew) → wpList P ops Q rest (a.put o.dst (.float .f64 r)) w') : wpList P ops Q (o :: rest) a W := by
  obtain ⟨r, w', hrun, hcv, hw⟩ := run_fop P W op hop t x y
  refine Kd.event_run hgd (v := .float .f64 r) (w1 := w') ?_ (h r w' hcv ?_ hw)
  · unfold execOp
    rcases hop with rfl | rfl | rfl | rfl <;> (simp only [ho, hx, hy]; simp [eqGuard, hrun])
  · rcases hw with rfl | rfl
    · exact Below.refl _ _
    · exact (Below.refl _ _).drew
end
set_option maxHeartbeats 1000000 in
theorem Sum_calls {w : World} {A : Option Addr} {c : Nat} {l : List Nat} (hr : Kd.C kF w A l.length l) (hl : l.length ≤ 4096) : Calls Try.prog 44 #[.slice A l.length c] w fun e w' => ∃ r : Nat, e = .returned (.float .f64 r) ∧ cv r = sumC (l.map cv) ∧ Below w.heap.size w w' := by
  have HR := Aside0.mk hr
  clear hr
  go_enter Try.func44, Try.ntmps44
  go_wp2
  go_loopw [3, 8] (fun s i wr => ∃ (j : Nat) (r : Nat), j ≤ l.length ∧ i = .int .i64 (j : Int) ∧ s = .float .f64 r ∧ cv r = sumC ((l.take j).map cv) ∧ Below w.heap.size w wr) (fun _ i _ => l.length - (intOf i).toNat)
  case atStart => exact ⟨0, 0, Nat.zero_le _, rfl, rfl, cv0, Below.refl _ _⟩
  case round =>
    obtain ⟨j, r, hj, rfl, rfl, hc, hb⟩ := hrel
    have HC := Aside0.mk hc
    have HB := Aside0.mk hb
    clear hc hb
    by_cases hlt : j < l.length
    · obtain ⟨ad, x, hA, hx, hcell⟩ := flo_at (Kd.C_below HR.out HB.out) j hlt
      have HX := Aside0.mk hx
      subst hA
      clear hx hj
      go_wp2_with (first
        | ((with_reducible refine gate_dst (N := 14) rfl ?_); refine fop_event rfl (N := 14) rfl rfl (.inl rfl) rfl rfl ?_; intro r2 w2 hcv hb2 hw2; have C2 := Aside0.mk hcv; have B2 := Aside0.mk (HB.out.trans (hb2.mono HB.out.size)); clear hcv hb2 hw2))
      go_roundw
      case rel => exact ⟨j + 1, r2, hlt, by go_num, rfl, by rw [C2.out, HC.out, List.take_add_one, HX.out, Option.toList_some, List.map_append, List.map_cons, List.map_nil, sumC_snoc], B2.out⟩
      case measure =>
        simp [intOf]
        go_num
    · obtain rfl : j = l.length := by omega
      clear hj
      go_wp2
      go_ret
      exact ⟨r, rfl, by rw [HC.out, List.take_length], HB.out⟩
set_option maxHeartbeats 1000000 in
theorem Mean_calls {w : World} {A : Option Addr} {c : Nat} {l : List Nat} (hr : Kd.C kF w A l.length l) (hl : l.length ≤ 4096) : Calls Try.prog 38 #[.slice A l.length c] w fun e w' => ∃ r : Nat, e = .returned (.float .f64 r) ∧ cv r = fop .quo (sumC (l.map cv)) (cv (floatOfInt .f64 l.length)) ∧ Below w.heap.size w w' := by
  have HR := Aside0.mk hr
  clear hr
  go_enter Try.func38, Try.ntmps38
  go_wp2_with (first
    | (go_at_call 44; refine (Sum_calls HR.out hl).mono ?_; rintro e w1 ⟨s, rfl, hs, hb⟩; have S1 := Aside0.mk hs; have B1 := Aside0.mk hb; clear hs hb)
    | ((with_reducible refine gate_dst (N := 8) rfl ?_); refine fop_event rfl (N := 8) rfl rfl (.inr (.inr (.inr rfl))) rfl rfl ?_; intro r2 w2 hcv hb2 hw2; have C2 := Aside0.mk hcv; have B2 := Aside0.mk (B1.out.trans (hb2.mono B1.out.size)); clear hcv hb2 hw2))
  go_ret
  exact ⟨r2, rfl, by rw [C2.out, S1.out], B2.out⟩
end Go.Proofs.Ytngncegokmppiaa.Flo
