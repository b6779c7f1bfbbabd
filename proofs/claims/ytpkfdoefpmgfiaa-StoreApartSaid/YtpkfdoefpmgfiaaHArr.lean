/- Equality of arrays, item by item. -/
import Derived.ChangeKeysEq
import Derived.Test.YtpkfdoefpmgfiaaWWords
namespace Go.Proofs.Ytpkfdoefpmgfiaa.Print
open Go.RowKit
theorem eqR_of {P : Program} {d : Nat} {xs ys : Array Value} {r : Bool} {w : World} {t e : TypeId} {n c : Nat} {is : List Nat} (hu : P.underlying t = some (.array n e)) (hi : (P.info? e).isSome = true) (hc : P.cellsOf e = c) (hr : List.range n = is) (h : (Op.eqItems d e c xs ys is).run P w = .ok r w) : (Op.equalIn (d + 1) t (.agg xs) (.agg ys)).run P w = .ok r w := by
  obtain ⟨i, hi⟩ := Option.isSome_iff_exists.1 hi
  rw [run_equalIn_array w d xs ys hu hi, hc, hr]
  exact h
theorem eqi_cons {P : Program} {d : Nat} {xs ys : Array Value} {r s : Bool} {w : World} {e : TypeId} {c j : Nat} {is : List Nat} {a b : Value} (ha : (part e xs (j * c)).run P w = .ok a w) (hb : (part e ys (j * c)).run P w = .ok b w) (he : (Op.equalIn d e a b).run P w = .ok r w) (hr : (Op.eqItems d e c xs ys is).run P w = .ok s w) : (Op.eqItems d e c xs ys (j :: is)).run P w = .ok (r && s) w := by
  simp only [Op.eqItems, Sem.run_bind, ha, hb, he, Result.andThen_ok]
  cases r
  · simp
  · simpa using hr
theorem pr_store_exec {P : Program} {o : Oper} {a : Act} {t : TypeId} {p : Tmp} {v : Operand} {u : Value} {q : Value} {W W1 : World} (ho : o.op = .store t (.tmp p) v) (hp : a.eval (.tmp p) = q) (hv : a.eval v = u) (hst : (Instr.storeAt t q u).run P W = .ok () W1) : (execOp a.eval o).run P W = .ok .skip W1 := by
  unfold execOp
  simp only [ho, hp, hv]
  simp [hst]
theorem eqi_last {P : Program} {d : Nat} {xs ys : Array Value} {r : Bool} {w : World} {e : TypeId} {c j : Nat} {a b : Value} (ha : (part e xs (j * c)).run P w = .ok a w) (hb : (part e ys (j * c)).run P w = .ok b w) (he : (Op.equalIn d e a b).run P w = .ok r w) : (Op.eqItems d e c xs ys [j]).run P w = .ok r w := by
  have h := eqi_cons (is := []) (s := true) ha hb he (by simp [Op.eqItems])
  rwa [Bool.and_true] at h
/-- What a row holds after copy(row[k:], ys). -/
def cpy {α : Type} (xs : List α) (k : Nat) (ys : List α) : List α := xs.take k ++ (ys.take (xs.length - k) ++ xs.drop (k + ys.length))
theorem cpy_zero {α : Type} (xs ys : List α) (m : Nat) (hm : ys.length = m) : ys.take (min m xs.length) ++ xs.drop (min m xs.length) = cpy xs 0 ys := by
  subst hm
  unfold cpy
  rw [List.take_zero, List.nil_append, Nat.sub_zero, Nat.zero_add]
  rcases Nat.le_total ys.length xs.length with h | h
  · rw [Nat.min_eq_left h, List.take_of_length_le (Nat.le_refl _), List.take_of_length_le h]
  · rw [Nat.min_eq_right h, List.drop_of_length_le (Nat.le_refl _), List.drop_of_length_le h]
section
open Go.Proofs.YtpkfdoefpmgfiaaW.PrintWords Go.Proofs.YtpkfdoefpmgfiaaW.PrintWords.Kd
variable {P : Program} {ops : Array Oper} {rest : List Oper} {o : Oper} {a : Act} {Q : Exit → Act → World → Prop} {α : Type}
/-- copy(v, ys). -/
theorem kd_copy {enc : α → Value} {h1 : ∀ x, (enc x).oneCell' = true} [Inhabited α] {w0 W : World} (base : Nat) (hgd : o.guard = none) (s x : Operand) (t t' e : TypeId)
    (ho : o.op = .call { callee := .builtin .copy, args := #[s, x], argTypes := #[t, t'] }) (ht : P.underlying t = some (.slice e)) (hinfo : (P.info? e).map (·.size) = some 1)
    (v : Value) (xs ys : List α) (A : Option Addr) (m c : Nat) (ok : Nat → Prop) (hs : a.eval s = v) (hx : a.eval x = .slice A m c)
    (HO : (scalar enc h1).R e W base ok v xs) (HR : (scalar enc h1).C W A m ys) (HB : Below base w0 W) (hbase : base ≤ W.heap.size)
    (h : ∀ w1, (scalar enc h1).R e w1 base ok v (cpy xs 0 ys) → Below base w0 w1 → W.grownBy w1 v.ownBlock → wpList P ops Q rest (a.put o.dst (.int .i64 ((min m xs.length : Nat) : Int))) w1) :
    wpList P ops Q (o :: rest) a W :=
  R_copy default base hgd s x t t' e ho ht hinfo v xs ys A m c ok hs hx HO HR HB hbase fun w1 h1_ h2 h3 => h w1 (by rw [← cpy_zero xs ys m HR.1]; exact h1_) h2 h3
end
end Go.Proofs.Ytpkfdoefpmgfiaa.Print
