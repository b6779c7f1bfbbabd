/- PatchPacks in plain Lean. -/
import Derived.Test.YtldlacphokbgcaaPurePacksA
import Derived.Test.YtldlacphokbgcaaPurePacksB
namespace Go.Proofs.Ytldlacphokbgcaa.Pure
open Go.RowKit Go.Proofs.Ytldlacphokbgcaa.Print Go.Proofs.YtldlacphokbgcaaW.PrintWords Go.Proofs.YtldlacphokbgcaaW.PrintLast Go.Proofs.YtldlacphokbgcaaW.PrintMore Go.Proofs.Ytldlacphokbgcaa.Jo
set_option linter.unusedVariables false
theorem compact_le (p : List S31) : (Lib.compact (linesOf p)).length ≤ p.length := by
  unfold Lib.compact
  have := cU_len (linesOf p).toArray (linesOf p).length
  rw [linesOf_len] at this ⊢
  exact this
theorem PatchPacks : escritoirelaw23_PatchPacks.Pure := by
  intro l0 l1 l2 h0 h1 h2
  apply Ev.rounds
  obtain ⟨p, hp⟩ : ∃ p, p = l0.take 60 := ⟨_, rfl⟩
  obtain ⟨q, hq⟩ : ∃ q, q = l1.take 60 := ⟨_, rfl⟩
  obtain ⟨y, hy⟩ : ∃ y, y = l2.take 100 := ⟨_, rfl⟩
  have lp : p.length ≤ 60 := by rw [hp, List.length_take]; omega
  have lq : q.length ≤ 60 := by rw [hq, List.length_take]; omega
  have ly : y.length ≤ 100 := by rw [hy, List.length_take]; omega
  have wp : ∀ x ∈ p, wf31 x := fun x hx => h0.2.2 x (List.mem_of_mem_take (hp ▸ hx))
  have wq : ∀ x ∈ q, wf31 x := fun x hx => h1.2.2 x (List.mem_of_mem_take (hq ▸ hx))
  have wy : ∀ x ∈ y, 0 ≤ x ∧ x < 18446744073709551616 := fun x hx => wfu64 (h2.2.2 x (List.mem_of_mem_take (hy ▸ hx)))
  have wpv : ∀ c ∈ p, c.f0 < 9223372036854775808 ∧ 0 ≤ c.f1 ∧ c.f1 < 18446744073709551616 := fun c hc => by
    have h := wp c hc
    have a := wf64 h.1; have b := wfu64 h.2; omega
  have wpq : (p ++ q).all okc = true := all_ok fun x hx => (List.mem_append.1 hx).elim (wp x) (wq x)
  have e100 : l2.take ((mn (l2.length : Int) 100) : Int).toNat = y := by
    rw [show (100 : Int) = ((100 : Nat) : Int) from rfl, mn_len, Int.toNat_natCast, Nat.min_comm, ← List.take_eq_take_min, hy]
  have hmn : 0 ≤ mn (l2.length : Int) 100 ∧ mn (l2.length : Int) 100 ≤ (l2.length : Int) := by
    rw [show (100 : Int) = ((100 : Nat) : Int) from rfl, mn_len]; omega
  obtain ⟨u, hu⟩ : ∃ u, u = unpR [] (unpF (y.length + 1) (-1) y) := ⟨_, rfl⟩
  have hul : u.1.length ≤ 1000 := by
    rw [hu]
    cases h : unpF (y.length + 1) (-1) y with
    | none => simp [unpR]
    | some x => have := (pack_unp _ y _ x wy (by omega) h).2.2.1; simp [unpR]; omega
  have hU := Unpack_ev y (by omega) wy
  have hV := refUnpack_ev y (by omega) wy
  rw [← hu] at hU hV
  have hP := Pack_ev p (by omega) wpv
  have hQ := refPack_ev p (by omega) wpv
  have hJ := Join_ev p q lp lq wpq
  have hK := refJoin_ev p q lp lq
  have hL := Lines_ev p lp
  have hM := refLines_ev p lp
  obtain ⟨a, ha⟩ : ∃ a, a = (if rightF (-1) p = true then packF (p.length + 1) p else []) := ⟨_, rfl⟩
  obtain ⟨b, hb⟩ : ∃ b, b = (if rightF (-1) p = true ∧ rightF (-1) q = true then canonL (joinM (p ++ q)) else []) := ⟨_, rfl⟩
  obtain ⟨d, hd⟩ : ∃ d, d = (if rightF (-1) p = true then Lib.compact (linesOf p) else []) := ⟨_, rfl⟩
  have la : a.length ≤ 1000 := by rw [ha]; split; exact Nat.le_trans (packF_len _ _) (by omega); simp
  have lb : b.length ≤ 1000 := by
    rw [hb]; split
    · rw [canon_len]; have := joinA_len (p ++ q) []; rw [← joinM_eq] at this; simp at this; omega
    · simp
  have ld : d.length ≤ 1000 := by rw [hd]; split; exact Nat.le_trans (compact_le p) (by omega); simp
  rw [← ha] at hP hQ
  rw [← hb] at hJ hK
  rw [← hd] at hL hM
  have hS1 := Same_ev a a (by omega)
  rw [decide_eq_true rfl] at hS1
  refine Ev.congr (fun k => by unfold escritoirelaw23_PatchPacks.f; rfl) (Ev.bind lives_ev ?_)
  refine Ev.congr (fun k => by rw [if_pos rfl, early60, ← hp, Option.bind_some, early60, ← hq, Option.bind_some, if_pos hmn.1, if_pos hmn.2, e100, Option.bind_some]) ?_
  refine Ev.bind hU (Ev.bind hV (Ev.bind hP (Ev.bind hQ (Ev.bind hS1 ?_))))
  refine Ev.congr (fun k => by rw [if_pos rfl, if_pos (by simp)]) (Ev.bind (SameT_ev u.1 (by omega)) ?_)
  refine Ev.congr (fun k => if_pos rfl) (Ev.bind hJ (Ev.bind hK (Ev.bind (SameT_ev b (by omega)) ?_)))
  refine Ev.congr (fun k => if_pos rfl) (Ev.bind hL (Ev.bind hM (Ev.bind (SameInts_ev d (by omega)) (Ev.now _))))
end Go.Proofs.Ytldlacphokbgcaa.Pure
