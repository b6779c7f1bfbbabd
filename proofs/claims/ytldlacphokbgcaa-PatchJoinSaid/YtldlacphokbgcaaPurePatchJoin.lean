/- PatchJoin in plain Lean. -/
import Derived.Test.YtldlacphokbgcaaPureJoin
namespace Go.Proofs.Ytldlacphokbgcaa.Pure
open Go.RowKit Go.Proofs.Ytldlacphokbgcaa.Print Go.Proofs.YtldlacphokbgcaaW.PrintWords Go.Proofs.YtldlacphokbgcaaW.PrintLast Go.Proofs.YtldlacphokbgcaaW.PrintMore Go.Proofs.Ytldlacphokbgcaa.Jo
set_option linter.unusedVariables false
theorem MakeL_ev (a : List Int) (p : List S31) (ha : a.length ≤ 17592186044416) (hp : p.length ≤ 1048576) : Ev (fun k => patch_Make.f k a p) (makeS a p) := by
  have key : ∀ (d i : Nat) (a : List Int), i + d = p.length → Ev (fun k => patch_Make.l0 k a p (p.length : Int) (i : Int)) (makeS a (p.drop i)) := by
    intro d
    induction d with
    | zero =>
      intro i a hi
      rw [List.drop_of_length_le (by omega)]
      exact Ev.step (f := fun _ => some a) (fun k => by simp only [patch_Make.l0]; rw [if_neg (by omega)]) (Ev.now _)
    | succ d ih =>
      intro i a hi
      rw [drop_cons p i (by omega), makeS, List.foldl_cons]
      refine Ev.step (fun k => ?_) (ih (i + 1) (put a (p[i]'(by omega))) (by omega))
      simp only [patch_Make.l0]
      rw [if_pos (by omega), if_pos (by omega), if_pos (by omega), rdT p i (by omega), wrap_id (by omega) (by omega)]
      unfold put
      by_cases h0 : 0 ≤ (p[i]'(by omega)).f0
      · by_cases h1 : (p[i]'(by omega)).f0 < (a.length : Int)
        · rw [if_pos h0, if_pos h1, if_pos h0, if_pos ⟨h0, h1⟩]; rfl
        · rw [if_pos h0, if_neg h1, if_neg (fun h => h1 h.2)]; rfl
      · rw [if_neg h0, if_neg (fun h => h0 h.1)]; rfl
  have h := key p.length 0 a (by omega)
  rw [List.drop_zero] at h
  refine Ev.congr (fun k => ?_) h
  unfold patch_Make.f slices_Clone_uint64_uint64.f
  rw [if_pos (by omega)]
  rfl
theorem Join_ev (p q : List S31) (hp : p.length ≤ 60) (hq : q.length ≤ 60) (hw : (p ++ q).all okc = true) : Ev (fun k => patch_Join.f k p q) (if rightF (-1) p = true ∧ rightF (-1) q = true then canonL (joinM (p ++ q)) else []) := by
  have h1 := Right_ev p (by omega)
  have h2 := Right_ev q (by omega)
  unfold patch_Join.f
  refine Ev.bind h1 ?_
  cases hR : rightF (-1) p with
  | false => exact Ev.congr (f := fun _ => some []) (fun k => by simp) (by simpa using Ev.now _)
  | true =>
    refine Ev.congr (fun k => if_pos rfl) (Ev.bind h2 ?_)
    cases hS : rightF (-1) q with
    | false => exact Ev.congr (f := fun _ => some []) (fun k => by simp) (by simpa using Ev.now _)
    | true => exact Ev.congr (f := fun _ => some (canonL (joinM (p ++ q)))) (fun k => by rw [if_pos rfl, if_pos ⟨by omega, hw⟩]) (by simpa using Ev.now _)
theorem all_ok {p : List S31} (h : ∀ x ∈ p, wf31 x) : p.all okc = true := List.all_eq_true.2 fun x hx => by
  have := h x hx
  unfold okc
  rw [Bool.and_eq_true]
  exact ⟨this.1, this.2⟩
theorem PatchJoin : escritoirelaw23_PatchJoin.Pure := by
  intro l0 l1 l2 h0 h1 h2
  apply Ev.rounds
  obtain ⟨p, hp⟩ : ∃ p, p = l1.take 60 := ⟨_, rfl⟩
  obtain ⟨q, hq⟩ : ∃ q, q = l2.take 60 := ⟨_, rfl⟩
  have lp : p.length ≤ 60 := by rw [hp, List.length_take]; omega
  have lq : q.length ≤ 60 := by rw [hq, List.length_take]; omega
  have wp : ∀ x ∈ p, wf31 x := fun x hx => h1.2.2 x (List.mem_of_mem_take (hp ▸ hx))
  have wq : ∀ x ∈ q, wf31 x := fun x hx => h2.2.2 x (List.mem_of_mem_take (hq ▸ hx))
  have hl0 : l0.length ≤ 17592186044416 := by have := h0.2.1; omega
  have wpq : (p ++ q).all okc = true := all_ok fun x hx => (List.mem_append.1 hx).elim (wp x) (wq x)
  have wpp : (p ++ p).all okc = true := all_ok fun x hx => (List.mem_append.1 hx).elim (wp x) (wp x)
  have wnq : (([] : List S31) ++ q).all okc = true := all_ok fun x hx => wq x (by simpa using hx)
  refine Ev.congr (fun k => by unfold escritoirelaw23_PatchJoin.f; rfl) (Ev.bind lives_ev ?_)
  refine Ev.congr (fun k => by rw [if_pos rfl, early60, ← hp, Option.bind_some, early60, ← hq, Option.bind_some]) ?_
  refine Ev.bind (Join_ev p q lp lq wpq) (Ev.bind (Right_ev p (by omega)) ?_)
  have bad : Ev (fun k => escritoirelaw23_PatchJoin.j0 k l0 p q [] true) true := Ev.step (f := fun _ => some true) (fun k => by simp only [escritoirelaw23_PatchJoin.j0]; rfl) (Ev.now _)
  cases hR : rightF (-1) p with
  | false =>
    rw [if_neg (by simp)]
    exact Ev.congr (fun k => if_neg (by simp)) bad
  | true =>
    refine Ev.congr (fun k => if_pos rfl) (Ev.bind (Right_ev q (by omega)) ?_)
    cases hS : rightF (-1) q with
    | false =>
      rw [if_neg (by simp)]
      exact bad
    | true =>
      rw [if_pos ⟨rfl, rfl⟩]
      have hup := (rightF_up p _ hR).2
      have huq := (rightF_up q _ hS).2
      have hj := join_right hR hS
      have hjl : (canonL (joinM (p ++ q))).length ≤ 120 := by rw [canon_len]; have := joinA_len (p ++ q) []; rw [← joinM_eq] at this; simp at this; omega
      have hRi := Right_ev (canonL (joinM (p ++ q))) (by omega)
      rw [hj] at hRi
      have hM := MakeL_ev l0 (canonL (joinM (p ++ q))) hl0 (by omega)
      rw [make_canon] at hM
      have hM2 := MakeL_ev (makeS l0 p) q (by rw [makeS_len]; exact hl0) (by omega)
      rw [← makeS_app] at hM2
      have hSm := Same_ev (makeS l0 (p ++ q)) (makeS l0 (p ++ q)) (by rw [makeS_len]; omega)
      rw [decide_eq_true rfl] at hSm
      have hJp := Join_ev p p lp lp wpp
      rw [if_pos ⟨hR, hR⟩, join_self hup] at hJp
      have hJq := Join_ev [] q (by simp) lq wnq
      rw [if_pos ⟨rfl, hS⟩, List.nil_append, join_nil huq] at hJq
      refine Ev.step (f := fun k => _) (fun k => by simp only [escritoirelaw23_PatchJoin.j0]; rfl) ?_
      refine Ev.congr (fun k => if_neg (by simp)) (Ev.bind hRi ?_)
      refine Ev.congr (fun k => if_pos rfl) (Ev.bind hM (Ev.bind (MakeL_ev l0 p hl0 (by omega)) (Ev.bind hM2 (Ev.bind hSm ?_))))
      refine Ev.congr (fun k => if_pos rfl) (Ev.bind hJp (Ev.bind (SameT_ev p (by omega)) ?_))
      refine Ev.congr (fun k => if_pos rfl) (Ev.bind hJq (Ev.bind (SameT_ev q (by omega)) (Ev.now _)))
end Go.Proofs.Ytldlacphokbgcaa.Pure
