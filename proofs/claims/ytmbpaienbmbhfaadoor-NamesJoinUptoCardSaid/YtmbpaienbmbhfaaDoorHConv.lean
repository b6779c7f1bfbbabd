/- '[]byte(s)': a new row that is read. -/
import Derived.Test.YtmbpaienbmbhfaaDoorPrint0
import Derived.WalkSpells
namespace Go.Proofs.YtmbpaienbmbhfaaDoor.Print
open Go.RowKit Go.Proofs.YtmbpaienbmbhfaaDoorW.PrintWords Go.Proofs.YtmbpaienbmbhfaaDoorW.PrintLast Go.Proofs.YtmbpaienbmbhfaaDoorW.PrintMore
theorem conv_step {P : Program} {ops : Array Oper} {rest : List Oper} {o : Oper} {a : Act} {Q : Exit → Act → World → Prop} {w0 W : World} (base src dst e : Nat) (hgd : o.guard = none) {N : Tmp} (_hd : o.dst = some N) (x : Operand) (ho : o.op = .convert src dst x) (s : ByteArray) (hx : a.eval x = .string s) {u : TypeDesc}
    (hs : P.underlying src = some u) (hdst : P.underlying dst = some (.slice e)) (he : P.underlying e = some (.int .u8)) (hsz : s.size ≤ 9223372036854775807) (HB : Below base w0 W) (hb : base ≤ W.heap.size)
    (h : ∀ g cap w1, W.heap.size ≤ g → Below base w0 w1 → W.grownBy w1 none → Kd.C (Kd.int .u8) w1 (some ⟨g, 0, none⟩) s.size (bytesOf s) → wpList P ops Q rest (a.put o.dst (.slice (some ⟨g, 0, none⟩) s.size cap)) w1) : wpList P ops Q (o :: rest) a W := by
  have hr := print_bytes (P := P) src dst e hs hdst he s W
  refine Kd.event_run hgd ?_ (h W.heap.size (grownCap W s.size 0 e) (Lib.bytesWorld W e s) (Nat.le_refl _) (bytes_below HB hb e s) ?_ ?_)
  · simp [execOp, ho, hx, hr]
  · exact ⟨rfl, rfl, rfl, by rw [Lib.bytesWorld_size]; omega, fun i hi _ => Lib.bytesWorld_at_old W e s i hi⟩
  · exact Kd.C_of_reads (d := (0 : Int)) (bytes_reads W e s hsz)
theorem cell_of_block {w w1 : World} {a : Addr} (h : w1.heap[a.block]? = w.heap[a.block]?) : w1.cell? a = w.cell? a := by
  unfold World.cell?
  rw [h]
end Go.Proofs.YtmbpaienbmbhfaaDoor.Print
