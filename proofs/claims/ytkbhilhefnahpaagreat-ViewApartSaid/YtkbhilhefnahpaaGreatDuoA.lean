/- A view beside a memory, over many steps with ever new views of the document. -/
import Derived.Test.YtkbhilhefnahpaaGreatLwW
namespace Go.Proofs.YtkbhilhefnahpaaGreat.Rf
open Go Go.RowKit Go.Proofs.YtkbhilhefnahpaaGreat.ML Go.Proofs.YtkbhilhefnahpaaGreat.Mem Go.Proofs.YtkbhilhefnahpaaGreat.Vw Go.Proofs.YtkbhilhefnahpaaGreat.Print Go.Proofs.YtkbhilhefnahpaaGreatW.PrintWords Go.Proofs.YtkbhilhefnahpaaGreatW.PrintLast Go.Proofs.YtkbhilhefnahpaaGreatW.PrintMore
set_option linter.unusedVariables false
set_option linter.unusedSimpArgs false
structure Duo (w0 w : World) (q : Vp) (f : Fp) (V : VS) (S : MS) : Prop where
 below : Below w0.heap.size w0 w
 view : zR w q f V
 mem : IsMem w f S
 qage : ∀ b ∈ q.list, w0.heap.size ≤ b
 fq : ∀ b ∈ f.list, b ∉ q.list
structure Run (w0 w w1 : World) (q : Vp) (f : Fp) (V : VS) (S : MS) (q1 : Vp) (V1 : VS) : Prop where
 duo : Duo w0 w1 q1 f V1 S
 turn : Turn q.list w w1
 qs : ∀ b ∈ q1.list, b ∈ q.list ∨ w.heap.size ≤ b
 qp : q1.p = q.p
theorem Duo.step {w0 w w1 : World} {q : Vp} {f : Fp} {V : VS} {S : MS} (h : Duo w0 w q f V S) (hb : Below w.heap.size w w1) : Duo w0 w1 q f V S :=
 ⟨h.below.trans (hb.mono h.below.size), h.view.below hb, h.mem.below hb, h.qage, h.fq⟩
theorem Duo.run {w0 w : World} {q : Vp} {f : Fp} {V : VS} {S : MS} (h : Duo w0 w q f V S) : Run w0 w w q f V S q V := ⟨h, Turn.refl _ _, fun _ hb => .inl hb, rfl⟩
section
variable {w0 w w1 w2 w3 : World} {q q1 q2 : Vp} {f : Fp} {r r2 : Rp} {V V1 V2 : VS} {S : MS} {R R2 : RS}
theorem Run.step (h : Run w0 w w1 q f V S q1 V1) (hb : Below w1.heap.size w1 w2) : Run w0 w w2 q f V S q1 V1 :=
 ⟨h.duo.step hb, h.turn.trans (Turn.of_below hb _), h.qs, h.qp⟩
theorem Run.ref (h : Run w0 w w1 q f V S q1 V1) (hr : IsRef w0 w2 r R) (hb : Below w1.heap.size w1 w2) (hl : ∀ b ∈ r.list, w1.heap.size ≤ b) : Trio w0 w2 q1 f r V1 S R := by
 have d := h.duo.step hb
 refine ⟨d.below, d.view, d.mem, hr, d.qage, d.fq, fun b hb hm => ?_, fun b hb hm => ?_⟩
 ·have h1 := h.duo.mem.lts b hb; have h2 := hl b hm; omega
 ·have h1 := h.duo.view.lts b hb; have h2 := hl b hm; omega
theorem Run.next (h : Run w0 w w1 q f V S q1 V1) (hb : Below w1.heap.size w1 w2) (hl : ∀ b ∈ r.list, w1.heap.size ≤ b) (A : Acc w0 w2 w3 q1 f r V1 S q2 r2 V2 R2) : Run w0 w w3 q f V S q2 V2 := by
 have s1 := h.turn.size
 have s2 := hb.size
 refine ⟨⟨A.trio.below, A.trio.view, A.trio.mem, A.trio.qage, A.trio.fq⟩, h.turn.comp ((Turn.of_below hb _).trans A.turn) fun b hm => ?_, fun b hm => ?_, A.qp.trans h.qp⟩
 ·rcases List.mem_append.1 hm with hm | hm
  ·exact h.qs b hm
  ·exact .inr (Nat.le_trans s1 (hl b hm))
 ·rcases A.qs b hm with hm | hm
  ·exact h.qs b hm
  ·exact .inr (by omega)
/-- Another view isn't touched. -/
theorem Run.other {p : Vp} {U : VS} (h : Run w0 w w1 q f V S q1 V1) (hp : zR w p f U) (hd : ∀ b ∈ p.list, b ∉ q.list) : zR w1 p f U := hp.kept h.turn hd
theorem Run.apart {p : Vp} (h : Run w0 w w1 q f V S q1 V1) (hp : ∀ b ∈ p.list, b < w.heap.size) (hd : ∀ b ∈ p.list, b ∉ q.list) : ∀ b ∈ p.list, b ∉ q1.list := by
 intro b hb hm
 rcases h.qs b hm with hm | hm
 ·exact hd b hb hm
 ·have := hp b hb; omega
end
end Go.Proofs.YtkbhilhefnahpaaGreat.Rf
