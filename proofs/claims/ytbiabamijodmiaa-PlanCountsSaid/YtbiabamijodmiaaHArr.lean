/- Equality of arrays, item by item. -/
import Derived.ChangeKeysEq
import Derived.Test.YtbiabamijodmiaaWWords
namespace Go.Proofs.Ytbiabamijodmiaa.Print
open Go.RowKit
theorem eqR_of {P : Program} {d : Nat} {xs ys : Array Value} {r : Bool} {w : World} {t e : TypeId} {n c : Nat} {is : List Nat} (hu : P.underlying t = some (.array n e)) (hi : (P.info? e).isSome = true) (hc : P.cellsOf e = c) (hr : List.range n = is) (h : (Op.eqItems d e c xs ys is).run P w = .ok r w) : (Op.equalIn (d + 1) t (.agg xs) (.agg ys)).run P w = .ok r w := by
  obtain ⟨i, hi⟩ := Option.isSome_iff_exists.1 hi
  rw [run_equalIn_array w d xs ys hu hi, hc, hr]
  exact h
theorem eqi_cons {P : Program} {d : Nat} {xs ys : Array Value} {r s : Bool} {w : World} {e : TypeId} {c j : Nat} {is : List Nat} {a b : Value} (ha : (part e xs (j * c)).run P w = .ok a w) (hb : (part e ys (j * c)).run P w = .ok b w) (he : (Op.equalIn d e a b).run P w = .ok r w) (hr : (Op.eqItems d e c xs ys is).run P w = .ok s w) : (Op.eqItems d e c xs ys (j :: is)).run P w = .ok (r && s) w := by
  simp only [Op.eqItems, Sem.run_bind, ha, hb, he, Result.andThen_ok]
  cases r
  · simp
  · simpa using hr
theorem eqi_last {P : Program} {d : Nat} {xs ys : Array Value} {r : Bool} {w : World} {e : TypeId} {c j : Nat} {a b : Value} (ha : (part e xs (j * c)).run P w = .ok a w) (hb : (part e ys (j * c)).run P w = .ok b w) (he : (Op.equalIn d e a b).run P w = .ok r w) : (Op.eqItems d e c xs ys [j]).run P w = .ok r w := by
  have h := eqi_cons (is := []) (s := true) ha hb he (by simp [Op.eqItems])
  rwa [Bool.and_true] at h
end Go.Proofs.Ytbiabamijodmiaa.Print
