/- slices.Clone of numbers: the same numbers, in new memory. -/
import Derived.Test.YtkbhilhefnahpaaGreatPrint0
import Derived.WalkSpells
namespace Go.Proofs.YtkbhilhefnahpaaGreat.Print
open Go.RowKit Go.Proofs.YtkbhilhefnahpaaGreatW.PrintWords Go.Proofs.YtkbhilhefnahpaaGreatW.PrintLast Go.Proofs.YtkbhilhefnahpaaGreatW.PrintMore
theorem info_u64c : (Tryz.prog.info? 34).map (fun i => (i.zero, i.size, i.bytes)) = some (some (.int .u64 0), 1, 8) := by kernel_rfl
def slices_Clone_uint64_uint64.f (l0 : List Int) : Option (List Int) := if l0.length ≤ 17592186044416 then some l0 else none
set_option maxHeartbeats 400000 in
theorem slices_Clone_uint64_uint64.calls (A0 : Option Addr) (c0 : Nat) (l0 : List Int) (r : List Int) (w : World) (hr0 : Kd.C (Kd.int .u64) w A0 l0.length l0) (_hc0 : l0.length ≤ c0) (h : slices_Clone_uint64_uint64.f l0 = some r) :
  Calls Tryz.prog 19 #[.slice A0 l0.length c0] w fun e w' => ∃ v0_ : Value, e = .returned (v0_) ∧ Kd.R (Kd.int .u64) 34 w' w.heap.size (fun _ => True) v0_ r ∧ Below w.heap.size w w' := by
 unfold slices_Clone_uint64_uint64.f at h
 by_cases c : l0.length ≤ 17592186044416
 ·rw [if_pos c] at h
  obtain rfl := Option.some.inj h
  clear h
  have HR := ze.mk hr0
  clear hr0
  cases A0 with
  | none =>
   have hl : l0 = [] := by
    have h1 := HR.o
    rcases Nat.eq_zero_or_pos l0.length with h0 | h0
    ·exact List.eq_nil_of_length_eq_zero h0
    ·obtain ⟨ad, e, _⟩ := h1.2.2 h0
     cases e
   subst hl
   have heq := fun wx => Lib.run_eql_slice_nil (P := Tryz.prog) wx 24 34 none 0 c0 0 0 Tryz.underlying24
   go_enter Tryz.func19, Tryz.ntmps19
   go_wp2
   go_ret
   exact ⟨_, rfl, Kd.R_nil _ _ _ _ _, Below.refl _ _⟩
  | some ad =>
   have heq := fun wx => Lib.run_eql_slice_nil (P := Tryz.prog) wx 24 34 (some ad) l0.length c0 0 0 Tryz.underlying24
   have HB := ze.mk (Below.refl w.heap.size w)
   go_enter Tryz.func19, Tryz.ntmps19
   go_wp2_with (first
    | ((with_reducible refine zD (N := 5) rfl ?_); refine Kd.R_lit (Kd.int .u64) _ 34 ?hg (N := 5) ?hd (xs := ([] : List Int)) (inner := []) (ok := fun _ => True) (okp := fun _ => True) ?hr ?hp (fun _ hk => hk) trivial (Below.refl _ _) (Nat.le_refl _) (by simp) ?_; (case hd => rfl); (case hg => rfl); (case hr => first | (go_simp; done) | (go_simp; rfl)); (case hp => exact (Reps.none _ _)); intro v5 w5 ho5 hb5 hg5 hn5; clear hg5 hn5; have HO5 := ze.mk (Kd.yf ho5 (zt HB.o)); have HB5 := ze.mk (zu HB.o hb5); clear ho5)
    | ((with_reducible refine yo (b := .append) (xs := #[.tmp 5, .tmp 6]) rfl ?_); at_builtin; refine Kd.Zm (Kd.int .u64) (w0 := w) w.heap.size rfl (.tmp 5) (.tmp 6) 24 34 (.int .u64 0) 8 rfl Tryz.underlying24 info_u64c rfl (by decide) (by omega) v5 [] l0 (some ad) l0.length c0 (fun _ => True) (fun _ => False) rfl rfl HO5.o (Kd.zZ HR.o hb5) (fun _ _ h => h) (fun _ h => h.elim) (fun _ _ => trivial) HB5.o (zt HB5.o) (by simp; omega) ?_; intro v7 w7 ho7 hb7 hg7 hat7; clear hg7 hat7; have HO7 := ze.mk ho7; have HB7 := ze.mk hb7; clear ho7 hb7))
   go_ret
   exact ⟨_, rfl, HO7.o, HB7.o⟩
 ·rw [if_neg c] at h
  cases h
end Go.Proofs.YtkbhilhefnahpaaGreat.Print
