import Derived.Test.YtbiabamijodmiaaPrintK
import Derived.Test.YtbiabamijodmiaaPureRight
namespace Go.Proofs.Ytbiabamijodmiaa.Pure
open Go.RowKit Go.Proofs.Ytbiabamijodmiaa.Print Go.Proofs.YtbiabamijodmiaaW.PrintWords Go.Proofs.YtbiabamijodmiaaW.PrintLast Go.Proofs.YtbiabamijodmiaaW.PrintMore Right

theorem PlanHead : escritoirelaw05_PlanHead.Pure := by
  intro l0 a1 a2 hl0 ha1 ha2
  refine ⟨20, ?_⟩
  unfold escritoirelaw05_PlanHead.f
  rw [lives_f]
  simp only [Option.bind_some]
  rw [if_pos trivial, size_f]
  simp only [Option.bind_some]
  rw [if_pos (by omega), if_pos (by omega)]
  generalize hz : List.replicate (2824 : Int).toNat (0 : Int) = z
  have lz : z.length = 2824 := by rw [← hz, List.length_replicate]; rfl
  clear hz
  rw [if_pos (by omega), head_f]
  simp only [Option.bind_some]
  have ly1 := cpy_len' z l0 8 (by omega)
  generalize cpy z 8 l0 = y1 at *
  have ly := cpy_len' y1 head 0 (by omega)
  have hy := cpy_head y1 (by omega)
  generalize cpy y1 0 head = y at *
  have hR : R y = true := by unfold R; exact decide_eq_true ⟨by omega, hy⟩
  rw [right_f, hR]
  simp only [Option.bind_some]
  rw [if_pos trivial, if_pos (by simp; omega), List.nil_append, if_pos (by omega), right_f, R_no (by simp; omega)]
  simp only [Option.bind_some]
  rw [if_neg (by decide), if_pos (by omega), right_f, R_no (by simp; omega)]
  simp only [Option.bind_some]
  obtain ⟨i0, i1⟩ := index a1 (n := 8) (by omega) (by omega)
  generalize wrap64 (Int.tmod (IntKind.u64.wrap a1) 8) = m at *
  obtain ⟨i, rfl⟩ : ∃ i : Nat, m = (i : Int) := ⟨m.toNat, by omega⟩
  rw [if_neg (by decide), if_pos i0, if_pos (by omega), right_f, Int.toNat_natCast, rd_at y (by omega)]
  simp only [Option.bind_some]
  congr 1
  rw [beq_iff_eq, Bool.eq_iff_iff, beq_iff_eq]
  have li : i < (y.take 8).length := by simp; omega
  have := set_iff (y.take 8) li a2
  rw [← List.take_set, List.getElem_take] at this
  rw [← this, hy]
  unfold R
  rw [decide_eq_true_eq]
  simp
  omega

end Go.Proofs.Ytbiabamijodmiaa.Pure
