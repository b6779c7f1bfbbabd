/- Small laws for walks by hand: a whole block stored. -/
import Derived.Test.YtkbhilhefnahpaaGreatPrint0
import Derived.WalkSpells
namespace Go.Proofs.YtkbhilhefnahpaaGreat.Print
open Go.RowKit Go.Proofs.YtkbhilhefnahpaaGreatW.PrintWords Go.Proofs.YtkbhilhefnahpaaGreatW.PrintLast Go.Proofs.YtkbhilhefnahpaaGreatW.PrintMore
theorem store_all {w : World} {g : Nat} {t : TypeId} {cs : Array Value} (seg : List Value) (h : w.heap[g]? = some (.cells cs t (0, 0))) (hn : seg.length = cs.size) : (w.setCells g 0 seg).heap[g]? = some (.cells seg.toArray t (0, 0)) := by
 obtain ⟨cur', h3, h4, h5⟩ := yV seg 0 w cs h (by omega)
 rw [h3]
 have : cur' = seg.toArray := by
  apply Array.toList_inj.1
  rw [h5]
  simp
  omega
 rw [this]
theorem store_far {w : World} {g k : Nat} {o : Obj} (seg : List Value) (h : w.heap[k]? = some o) (hne : k ≠ g) : (w.setCells g 0 seg).heap[k]? = some o := (yJ seg 0 k hne).trans h
theorem below_store {base : Nat} {w0 w : World} {g : Nat} (seg : List Value) (h : Below base w0 w) (hg : base ≤ g) : Below base w0 (w.setCells g 0 seg) := by
 obtain ⟨s1, s2, s3, s4⟩ := yN g seg 0 w
 exact ⟨s1.trans h.os, s2.trans h.tape, s3.trans h.output, by rw [s4]; exact h.size, fun k hk => (yJ seg 0 k (by omega)).trans (h.block k hk)⟩
theorem store_exec {P : Program} {o : Oper} {a : Act} {t : TypeId} {p : Tmp} {v : Operand} {u : Value} {q : Value} {W W1 : World} (ho : o.op = .store t (.tmp p) v) (hp : a.eval (.tmp p) = q) (hv : a.eval v = u) (hst : (Instr.storeAt t q u).run P W = .ok () W1) : (execOp a.eval o).run P W = .ok .skip W1 := by
 unfold execOp
 simp only [ho, hp, hv]
 simp [hst]
end Go.Proofs.YtkbhilhefnahpaaGreat.Print
