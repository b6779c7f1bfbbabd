/- Equality of arrays, item by item. -/
import Derived.ChangeKeysEq
import Derived.Test.YtngncegokmppiaaWWords
namespace Go.Proofs.Ytngncegokmppiaa.Print
open Go.RowKit
theorem eqR_of {P : Program} {d : Nat} {xs ys : Array Value} {r : Bool} {w : World} {t e : TypeId} {n c : Nat} {is : List Nat} (hu : P.underlying t = some (.array n e)) (hi : (P.info? e).isSome = true) (hc : P.cellsOf e = c) (hr : List.range n = is) (h : (Op.eqItems d e c xs ys is).run P w = .ok r w) : (Op.equalIn (d + 1) t (.agg xs) (.agg ys)).run P w = .ok r w := by
  obtain ⟨i, hi⟩ := Option.isSome_iff_exists.1 hi
  rw [run_equalIn_array w d xs ys hu hi, hc, hr]
  exact h
theorem eqi_cons {P : Program} {d : Nat} {xs ys : Array Value} {r s : Bool} {w : World} {e : TypeId} {c j : Nat} {is : List Nat} {a b : Value} (ha : (part e xs (j * c)).run P w = .ok a w) (hb : (part e ys (j * c)).run P w = .ok b w) (he : (Op.equalIn d e a b).run P w = .ok r w) (hr : (Op.eqItems d e c xs ys is).run P w = .ok s w) : (Op.eqItems d e c xs ys (j :: is)).run P w = .ok (r && s) w := by
  simp only [Op.eqItems, Sem.run_bind, ha, hb, he, Result.andThen_ok]
  cases r
  · simp
  · simpa using hr
theorem pr_store_exec {P : Program} {o : Oper} {a : Act} {t : TypeId} {p : Tmp} {v : Operand} {u : Value} {q : Value} {W W1 : World} (ho : o.op = .store t (.tmp p) v) (hp : a.eval (.tmp p) = q) (hv : a.eval v = u) (hst : (Instr.storeAt t q u).run P W = .ok () W1) : (execOp a.eval o).run P W = .ok .skip W1 := by
  unfold execOp
  simp only [ho, hp, hv]
  simp [hst]
theorem eqi_last {P : Program} {d : Nat} {xs ys : Array Value} {r : Bool} {w : World} {e : TypeId} {c j : Nat} {a b : Value} (ha : (part e xs (j * c)).run P w = .ok a w) (hb : (part e ys (j * c)).run P w = .ok b w) (he : (Op.equalIn d e a b).run P w = .ok r w) : (Op.eqItems d e c xs ys [j]).run P w = .ok r w := by
  have h := eqi_cons (is := []) (s := true) ha hb he (by simp [Op.eqItems])
  rwa [Bool.and_true] at h
end Go.Proofs.Ytngncegokmppiaa.Print
