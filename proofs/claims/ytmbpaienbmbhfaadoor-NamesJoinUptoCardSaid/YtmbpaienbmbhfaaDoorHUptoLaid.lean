/- An upto statement whose row lists variables: the wrap and the witness; what the bound gives of a slice and of a text. -/
import Derived.Test.YtmbpaienbmbhfaaDoorPrint0
import Derived.Test.YtmbpaienbmbhfaaDoorRows
import Derived.Deep.Slices
import Derived.ChangeArms
import Derived.JoinedCond
import Derived.Deep.CondSized
import Derived.LaidMore
import Derived.Lay
import Derived.SliceStrings
namespace Go.Proofs.YtmbpaienbmbhfaaDoor.Print
open Go.RowKit Go.Proofs.YtmbpaienbmbhfaaDoorW.PrintWords Go.Proofs.YtmbpaienbmbhfaaDoorW.PrintLast Go.Proofs.YtmbpaienbmbhfaaDoorW.PrintMore
theorem bulk_one {H : Type} (d : DataW H) : 1 ≤ Rows.uptoBulk d := by
  cases d with
  | lit l => cases l <;> simp [Rows.uptoBulk]
  | nil => simp [Rows.uptoBulk]
  | ptr d => simp [Rows.uptoBulk]
  | slice elems spare => simp [Rows.uptoBulk]
  | agg parts => simp [Rows.uptoBulk]
  | iface t d => simp [Rows.uptoBulk]
  | map entries => simp [Rows.uptoBulk]
  | held h => simp [Rows.uptoBulk]
theorem bulk_length {H : Type} (l : List (DataW H)) : l.length ≤ Rows.uptoBulkAll l := by
  induction l with
  | nil => simp [Rows.uptoBulkAll]
  | cons x r ih => have := bulk_one x; simp only [Rows.uptoBulkAll, List.length_cons]; omega
theorem bulk_slice {P : Program} {H : Type} {enc : TypeId × Value → H} {w : World} {base : Nat} {spare : Nat → Bool} {held : Bool} {fuel : Nat} {t e : TypeId} {A : Option Addr} {n c : Nat} {x : DataW H × List MemPlace} (hu : P.underlying t = some (.slice e))
    (h : DataW.trod enc P w base spare held fuel t [.slice A n c] = some x) : n ≤ Rows.uptoBulk x.1 := by
  rcases DataW.trod_slice hu h with ⟨h0, rfl⟩ | ⟨a, len, cap, elems, rest, n', _, h0, rfl, _, _, _, hlen, _⟩
  · injection h0 with h0
    injection h0 with _ h1
    omega
  · injection h0 with h0
    injection h0 with _ h1
    have h2 := bulk_length (elems.map (·.1))
    rw [List.length_map] at h2
    simp only [Rows.uptoBulk]
    omega
theorem bulk_string {H : Type} (a : ByteArray) : Rows.uptoBulk (.lit (.string a.data.toList) : DataW H) = a.size + 1 := by
  simp [Rows.uptoBulk]
variable {H : Type} {enc : TypeId × Value → H}
theorem returnsInHanded_of_cond_laid {a : Assume} {C : Checked} {os : Os} {f : FuncId} {fn : Func} {s : OpenSpec} {k : (H : Type) → List (DataW H) → Bool} (hk : s.cond = some k) {F : Stop.Interp} {conds : List PathCond} {apart fresh handsOn again : Bool} {X : World → Array Value → Prop}
    (hX : ∀ (w w' : World) (args : Array Value), w.heap = w'.heap → X w args → X w' args)
    (own : ownKnob C.prog.godebug = none) (started : os.Started) (noInit : C.prog.inits.idxOf? f = none) (hfn : C.prog.funcs[f]? = some fn)
    (witness : ∃ (w : World) (tape : Tape) (i : Input), w.os = os ∧ (w.forCall tape i).Shaped C.prog ∧ i.vars = [] ∧ Input.okWide C.prog (w.forCall tape i) .any w.heap.size f i ∧
      ((s.pre enc C.prog fn conds apart (w.forCall tape i).memory i.args ∧ X (w.forCall tape i).memory i.args) ∧ sizedMet enc C.prog fn s apart (w.forCall tape i).memory i.args) ∧ a.holds C.prog (lone (Frame.enter C.prog f i.args .normal) [] (w.forCall tape i)))
    (contract : ∀ (W : World) (base : Nat) (args : Array Value) (ds gs : List (DataW H)) (before : List MemPlace),
      (∀ (j : Nat) t v, fn.params[j]? = some t → args[j]? = some v → Value.okWide C.prog W .any base t v) →
      DataW.Whole enc C.prog fn.params.toList s.vars apart W args.toList ds gs before →
      conds.all (PathCond.test C.prog ⟨fn.params.toList, ds, s.bare.plain.varTypes C.prog, gs⟩) = true → k H (ds ++ gs) = true →
      (DataW.weightsEach C.prog (fn.params.toList ++ s.bare.plain.varTypes C.prog) (ds ++ gs)).all (· ≤ reachBytes) = true → X W args →
      a.holds C.prog (lone (Frame.enter C.prog f args .normal) [] W) →
      Calls C.prog f args W fun e W' => ∃ v, e = .returned v ∧ (s.at F).post enc C.prog fn apart fresh handsOn again W args v W') :
    ReturnsInHanded a C os f .any (fun w args => (s.pre enc C.prog fn conds apart w args ∧ X w args) ∧ sizedMet enc C.prog fn s apart w args) ((s.at F).post enc C.prog fn apart fresh handsOn again) := by
  refine returnsInHanded_of_calls own started noInit witness ?_
  intro w tape i _ _ _ hok hpre hholds
  obtain ⟨_, _, _, fn', hfn', _, _, _, _, hval⟩ := hok
  have e : fn' = fn := Option.some.inj (hfn'.symm.trans hfn)
  subst e
  obtain ⟨⟨hp, hx⟩, hz⟩ := hpre
  obtain ⟨ds, gs, before, hw, hc, hkk⟩ := (OpenSpec.pre_some hk conds apart _ _).1 hp
  have hw' := DataW.Whole.of_heap (w' := w.forCall tape i) (by rfl) hw
  refine (contract (w.forCall tape i) w.heap.size i.args ds gs before hval hw' hc hkk (hz.weights hw) (hX _ _ _ (by rfl) hx) hholds).mono fun e W' ⟨v, he, hp⟩ => ?_
  subst he
  exact ChangeSpec.post_blind hp
theorem witness_cond_laid {C : Checked} {os : Os} {f : FuncId} {fn : Func} {s : OpenSpec} {k : (H : Type) → List (DataW H) → Bool} (hk : s.cond = some k) {conds : List PathCond} {apart : Bool} {X : World → Array Value → Prop} (modest : Bool) (w0 : World) (args : Array Value) (fuel : Nat) (hos : w0.os = os)
    (hsh : (w0.forCall (fun _ _ => 0) ⟨#[], args, []⟩).Shaped C.prog)
    (hok : Input.okWideB C.prog (w0.forCall (fun _ _ => 0) ⟨#[], args, []⟩) f ⟨#[], args, []⟩ = true)
    {x : List (DataW H) × List (DataW H) × List MemPlace} (hx : DataW.whole enc C.prog (w0.forCall (fun _ _ => 0) ⟨#[], args, []⟩).memory fn.params.toList s.vars apart args.toList fuel = some x)
    (hconds : conds.all (PathCond.test C.prog ⟨fn.params.toList, x.1, s.bare.plain.varTypes C.prog, x.2.1⟩) = true) (hkk : k H (x.1 ++ x.2.1) = true)
    (hsz : s.bare.sizedB enc C.prog fn apart (w0.forCall (fun _ _ => 0) ⟨#[], args, []⟩).memory args fuel = true)
    (hxx : X (w0.forCall (fun _ _ => 0) ⟨#[], args, []⟩).memory args) :
    ∃ (w : World) (tape : Tape) (i : Input), w.os = os ∧ (w.forCall tape i).Shaped C.prog ∧ i.vars = [] ∧ Input.okWide C.prog (w.forCall tape i) .any w.heap.size f i ∧
      ((s.pre enc C.prog fn conds apart (w.forCall tape i).memory i.args ∧ X (w.forCall tape i).memory i.args) ∧ sizedMet enc C.prog fn s apart (w.forCall tape i).memory i.args) ∧ ({ modest := modest } : Assume).holds C.prog (lone (Frame.enter C.prog f i.args .normal) [] (w.forCall tape i)) :=
  ⟨w0, fun _ _ => 0, ⟨#[], args, []⟩, hos, hsh, (Input.okWide_of_okWideB (base := 0) hok).1, (Input.okWide_of_okWideB hok).2, ⟨⟨(OpenSpec.pre_some hk conds apart _ _).2 ⟨x.1, x.2.1, x.2.2, DataW.Whole_of_whole hx, hconds, hkk⟩, hxx⟩, sizedMet_of_sizedB hsz⟩, by
    simp only [Assume.holds]
    exact ⟨by simp, by simp, fun _ => Modest.zero, by simp, by simp⟩⟩
theorem bulk_strs {H : Type} (l : List ByteArray) : (l.map ByteArray.size).sum ≤ Rows.uptoBulkAll (Go.ChangeShapes.strs (H := H) l) := by
  induction l with
  | nil => exact Nat.zero_le _
  | cons x r ih =>
    rw [List.map_cons, List.sum_cons]
    show _ ≤ Rows.uptoBulkAll ((.lit (.string x.data.toList) : DataW H) :: Go.ChangeShapes.strs r)
    have hb := bulk_string (H := H) x
    simp only [Rows.uptoBulkAll]
    omega
theorem bulk_strings {P : Program} {w : World} {base : Nat} {spare : Nat → Bool} {held : Bool} {fuel : Nat} {t e : TypeId} {A : Option Addr} {c : Nat} {l : List ByteArray} {x : DataW H × List MemPlace} (hu : P.underlying t = some (.slice e)) (he : P.underlying e = some .string) (hc : P.cellsOf e = 1)
    (h : DataW.trod enc P w base spare held fuel t [.slice A l.length c] = some x) (g : Kd.C Kd.string w A l.length l) : (l.map ByteArray.size).sum ≤ Rows.uptoBulk x.1 := by
  rcases Go.ChangeShapes.open_strings hu he hc h with ⟨h0, rfl⟩ | ⟨a, len, cap, ss, h0, _, hlc, _, hss, rfl, hcell, _⟩
  · injection h0 with h0
    injection h0 with _ h1
    rw [List.eq_nil_of_length_eq_zero h1]
    exact Nat.zero_le _
  · injection h0 with h0
    injection h0 with hA h1 h2
    subst hA
    have hlen : len ≤ ss.length := by rw [hss]; split <;> omega
    have hl : ss.take len = l := by
      apply List.ext_getElem
      · rw [List.length_take]; omega
      · intro i h3 h4
        have hi : i < ss.length := by rw [List.length_take] at h3; omega
        obtain ⟨ad, hA, hx⟩ := Kd.at_string g (i : Int) (by omega) (by omega)
        injection hA with hA
        subst hA
        have hy := hcell i hi
        rw [Int.toNat_natCast] at hx
        have e2 := Option.some.inj (hx.symm.trans hy)
        injection e2 with e2
        rw [List.getElem_take]
        have e3 : rdOf ByteArray.empty l (i : Int) = l[i] := by unfold rdOf; rw [Int.toNat_natCast, List.getD_eq_getElem?_getD, List.getElem?_eq_getElem h4]; rfl
        rw [e3, List.getD_eq_getElem?_getD, List.getElem?_eq_getElem hi] at e2
        exact e2.symm
    have := bulk_strs (H := H) l
    rw [hl]
    simp only [Rows.uptoBulk]
    omega
end Go.Proofs.YtmbpaienbmbhfaaDoor.Print
