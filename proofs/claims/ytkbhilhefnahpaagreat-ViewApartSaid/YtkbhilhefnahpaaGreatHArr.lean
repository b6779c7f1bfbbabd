/- Equality of arrays, item by item. -/
import Derived.ChangeKeysEq
import Derived.Test.YtkbhilhefnahpaaGreatWWords
namespace Go.Proofs.YtkbhilhefnahpaaGreat.Print
open Go.RowKit
theorem eqR_of {P : Program} {d : Nat} {xs ys : Array Value} {r : Bool} {w : World} {t e : TypeId} {n c : Nat} {is : List Nat} (hu : P.underlying t = some (.array n e)) (hi : (P.info? e).isSome = true) (hc : P.cellsOf e = c) (hr : List.range n = is) (h : (Op.eqItems d e c xs ys is).run P w = .ok r w) : (Op.equalIn (d + 1) t (.agg xs) (.agg ys)).run P w = .ok r w := by
 obtain ⟨i, hi⟩ := Option.isSome_iff_exists.1 hi
 rw [run_equalIn_array w d xs ys hu hi, hc, hr]
 exact h
theorem Zz {P : Program} {d : Nat} {xs ys : Array Value} {r s : Bool} {w : World} {e : TypeId} {c j : Nat} {is : List Nat} {a b : Value} (ha : (part e xs (j * c)).run P w = .ok a w) (hb : (part e ys (j * c)).run P w = .ok b w) (he : (Op.equalIn d e a b).run P w = .ok r w) (hr : (Op.eqItems d e c xs ys is).run P w = .ok s w) : (Op.eqItems d e c xs ys (j :: is)).run P w = .ok (r && s) w := by
 simp only [Op.eqItems, Sem.run_bind, ha, hb, he, Result.andThen_ok]
 cases r
 ·simp
 ·simpa using hr
theorem zM {P : Program} {o : Oper} {a : Act} {t : TypeId} {p : Tmp} {v : Operand} {u : Value} {q : Value} {W W1 : World} (ho : o.op = .store t (.tmp p) v) (hp : a.eval (.tmp p) = q) (hv : a.eval v = u) (hst : (Instr.storeAt t q u).run P W = .ok () W1) : (execOp a.eval o).run P W = .ok .skip W1 := by
 unfold execOp
 simp only [ho, hp, hv]
 simp [hst]
theorem eqi_last {P : Program} {d : Nat} {xs ys : Array Value} {r : Bool} {w : World} {e : TypeId} {c j : Nat} {a b : Value} (ha : (part e xs (j * c)).run P w = .ok a w) (hb : (part e ys (j * c)).run P w = .ok b w) (he : (Op.equalIn d e a b).run P w = .ok r w) : (Op.eqItems d e c xs ys [j]).run P w = .ok r w := by
 have h := Zz (is := []) (s := true) ha hb he (by simp [Op.eqItems])
 rwa [Bool.and_true] at h
/-- What a row holds after copy(row[k:], ys). -/
def cpy {α : Type} (xs : List α) (k : Nat) (ys : List α) : List α := xs.take k ++ (ys.take (xs.length - k) ++ xs.drop (k + ys.length))
theorem cpy_zero {α : Type} (xs ys : List α) (m : Nat) (hm : ys.length = m) : ys.take (min m xs.length) ++ xs.drop (min m xs.length) = cpy xs 0 ys := by
 subst hm
 unfold cpy
 rw [List.take_zero, List.nil_append, Nat.sub_zero, Nat.zero_add]
 rcases Nat.le_total ys.length xs.length with h | h
 ·rw [Nat.min_eq_left h, List.take_of_length_le (Nat.le_refl _), List.take_of_length_le h]
 ·rw [Nat.min_eq_right h, List.drop_of_length_le (Nat.le_refl _), List.drop_of_length_le h]
theorem cpy_len {α : Type} (xs ys : List α) (k : Nat) (hk : k ≤ xs.length) : (cpy xs k ys).length = xs.length := by
 unfold cpy
 simp only [List.length_append, List.length_take, List.length_drop]
 omega
section
open Go.Proofs.YtkbhilhefnahpaaGreatW.PrintWords Go.Proofs.YtkbhilhefnahpaaGreatW.PrintWords.Kd
variable {P : Program} {ops : Array Oper} {rest : List Oper} {o : Oper} {a : Act} {Q : Exit → Act → World → Prop} {α : Type}
/-- copy(v[k:], ys), v a row of scalars of one's own. -/
theorem kd_copy_at {enc : α → Value} {h1 : ∀ x, (enc x).oneCell' = true} [Inhabited α] {w0 W : World} (base : Nat) (hgd : o.guard = none) (s x : Operand) (t t' e : TypeId)
  (ho : o.op = .call { callee := .builtin .copy, args := #[s, x], argTypes := #[t, t'] }) (ht : P.underlying t = some (.slice e)) (hinfo : (P.info? e).map (·.size) = some 1)
  (v : Value) (xs ys : List α) (A A0 A1 : Option Addr) (m c n0 c0 n1 c1 k : Nat) (ok : Nat → Prop) (hs : a.eval s = .slice A1 n1 c1) (hx : a.eval x = .slice A m c) (hv : v = .slice A0 n0 c0)
  (hA : A1 = (if c0 = k then A0 else A0.map (·.add (k * 1)))) (hn : n1 = xs.length - k) (hk : k ≤ xs.length)
  (HO : (scalar enc h1).R e W base ok v xs) (HR : (scalar enc h1).C W A m ys) (HB : Below base w0 W) (hbase : base ≤ W.heap.size)
  (h : ∀ w1, (scalar enc h1).R e w1 base ok v (cpy xs k ys) → Below base w0 w1 → W.grownBy w1 v.ownBlock → wpList P ops Q rest (a.put o.dst (.int .i64 ((min m (xs.length - k) : Nat) : Int))) w1) :
  wpList P ops Q (o :: rest) a W := by
 have hR := YO (enc := enc) (d := default) (h1 := h1) HR
 have hm : ys.length = m := hR.1
 have hown := Xa HO
 have fin : ∀ w1, (Builtin.copy_ #[t, t'] o.type #[.slice A1 n1 c1, .slice A m c]).run P W = .ok (goInt ((min m (xs.length - k) : Nat) : Int)) w1 → (scalar enc h1).R e w1 base ok v (cpy xs k ys) → W.grownBy w1 v.ownBlock → wpList P ops Q (o :: rest) a W := by
  intro w1 hr hrow hg
  refine wpList_plain hgd fun K hK => ?_
  unfold Oper.wp execOp
  simp only [ho, resolve, invoke, builtin, Sem.run_bind, Sem.run_pure, Result.andThen_ok, List.map_toArray, List.map_cons, List.map_nil, hs, hx, hr]
  exact hK _ _ (h w1 hrow (HB.grown hg hbase (own_base hown)) hg)
 subst hn
 rcases Nat.eq_zero_or_pos (min m (xs.length - k)) with h0 | hp
 ·refine fin W ?_ ?_ (World.grownBy.refl W _)
  ·rw [h0]
   exact run_copy_none W t t' o.type e A1 A (xs.length - k) c1 m c ht hinfo h0
  ·have : cpy xs k ys = xs := by
    unfold cpy
    rcases Nat.eq_zero_or_pos m with hz | hz
    ·have : ys = [] := List.eq_nil_of_length_eq_zero (by omega)
     subst this
     simp
    ·have : xs.length = k := by omega
     rw [this, Nat.sub_self, List.take_zero, List.nil_append, List.drop_of_length_le (by omega), List.append_nil, List.take_of_length_le (by omega)]
   rw [this]
   exact HO
 ·obtain ⟨ad, hAd, hc⟩ := hR.2.2 (by omega)
  rcases hown.2 with ⟨_, hx0⟩ | ⟨g, cap, cur, hv', hb, hh, hnc, hcm, hcs, htake⟩
  ·omega
  rw [hv] at hv'
  injection hv' with hv1 hv2 hv3
  subst hv1 hv2 hv3
  have hcs1 : cur.size = c0 := by omega
  rw [if_neg (by omega)] at hA
  have hA' : A1 = some ⟨g, k, none⟩ := by rw [hA]; simp [Addr.add]; omega
  subst hA'
  clear hA
  have hsrc : ∀ j u, (encs enc (ys.take (min m (xs.length - k))))[j]? = some u → W.cell? (ad.add j) = some u := by
   intro j u hu
   have hj : j < (ys.take (min m (xs.length - k))).length := by
    rcases Nat.lt_or_ge j (ys.take (min m (xs.length - k))).length with h | h
    ·exact h
    ·rw [List.getElem?_eq_none (by rw [yX]; exact h)] at hu
     cases hu
   have hjm : j < min m (xs.length - k) := by rw [List.length_take] at hj; omega
   rw [encs_get (d := default) _ j hj] at hu
   rw [hc j (by omega), ← hu]
   simp [List.getD_eq_getElem?_getD, hjm]
  have hkl : (encs enc (ys.take (min m (xs.length - k)))).length = min m (xs.length - k) := by rw [yX, List.length_take]; omega
  have hr := run_copy_cells (P := P) W t t' o.type e g k (xs.length - k) c1 ad m c (encs enc (ys.take (min m (xs.length - k)))) ht hinfo (by rw [hkl]) hsrc
   (fun j hj => by rw [cell_of_row W g _ cur e (0, 0) hh]; simp; omega) (fun j _ => za hh _) (by intro u hu; simp only [encs, List.mem_map] at hu; obtain ⟨q, _, rfl⟩ := hu; exact h1 q)
  obtain ⟨cur', h3, h4, h5⟩ := yV (encs enc (ys.take (min m (xs.length - k)))) k W cur hh (by rw [hkl]; omega)
  obtain ⟨s1, s2, s3, s4⟩ := yN g (encs enc (ys.take (min m (xs.length - k)))) k W
  refine fin _ (by rw [hAd, hr, hkl]) (Xc ?_ HO.1) ⟨s1, s2, s3, by rw [s4]; exact Nat.le_refl _, fun q _ hq => yJ _ _ q (fun he => hq (by rw [hv, he]; simp [Value.ownBlock]))⟩
  have hln : (cpy xs k ys).length = xs.length := cpy_len xs ys k hk
  rw [hln]
  refine ⟨by rw [yX, hln, Nat.mul_one], .inr ⟨g, c0, cur', hv, hb, h3, hnc, hcm, by rw [h4, hcs], ?_⟩⟩
  have htk : cur.toList.take xs.length = encs enc xs := by rw [← htake, Nat.mul_one]
  have e1 : cpy xs k ys = xs.take k ++ (ys.take (min m (xs.length - k)) ++ xs.drop (k + min m (xs.length - k))) := by
   unfold cpy
   rcases Nat.le_total m (xs.length - k) with h | h
   ·rw [Nat.min_eq_left h, hm, List.take_of_length_le (l := ys) (i := xs.length - k) (by omega), List.take_of_length_le (l := ys) (i := m) (by omega)]
   ·rw [Nat.min_eq_right h, List.drop_of_length_le (by omega), List.drop_of_length_le (i := k + (xs.length - k)) (by omega)]
  rw [h5, hkl, e1, Yj, Yj, Nat.mul_one]
  have ht1 : encs enc (xs.take k) = cur.toList.take k := by
   rw [show encs enc (xs.take k) = (encs enc xs).take k by simp [encs, List.map_take], ← htk, List.take_take, Nat.min_eq_left hk]
  have ht2 : encs enc (xs.drop (k + min m (xs.length - k))) = (cur.toList.take xs.length).drop (k + min m (xs.length - k)) := by
   rw [htk]; simp [encs, List.map_drop]
  rw [ht1, ht2]
  have hcl : cur.toList.length = c0 := by rw [Array.length_toList]; exact hcs1
  generalize hE : encs enc (ys.take (min m (xs.length - k))) = E at *
  generalize cur.toList = L at *
  generalize hj : min m (xs.length - k) = j at *
  have hjk : k + j ≤ xs.length := by omega
  have e3 : L.take k ++ E ++ L.drop (k + j) = (L.take k ++ E) ++ L.drop (k + j) := rfl
  rw [List.take_append, List.take_of_length_le (l := L.take k ++ E) (by rw [List.length_append, List.length_take, hkl]; omega), List.append_assoc]
  congr 2
  rw [List.length_append, List.length_take, hkl, List.drop_take, Nat.min_eq_left (by omega)]
/-- copy(v, ys). -/
theorem kd_copy {enc : α → Value} {h1 : ∀ x, (enc x).oneCell' = true} [Inhabited α] {w0 W : World} (base : Nat) (hgd : o.guard = none) (s x : Operand) (t t' e : TypeId)
  (ho : o.op = .call { callee := .builtin .copy, args := #[s, x], argTypes := #[t, t'] }) (ht : P.underlying t = some (.slice e)) (hinfo : (P.info? e).map (·.size) = some 1)
  (v : Value) (xs ys : List α) (A : Option Addr) (m c : Nat) (ok : Nat → Prop) (hs : a.eval s = v) (hx : a.eval x = .slice A m c)
  (HO : (scalar enc h1).R e W base ok v xs) (HR : (scalar enc h1).C W A m ys) (HB : Below base w0 W) (hbase : base ≤ W.heap.size)
  (h : ∀ w1, (scalar enc h1).R e w1 base ok v (cpy xs 0 ys) → Below base w0 w1 → W.grownBy w1 v.ownBlock → wpList P ops Q rest (a.put o.dst (.int .i64 ((min m xs.length : Nat) : Int))) w1) :
  wpList P ops Q (o :: rest) a W :=
 R_copy default base hgd s x t t' e ho ht hinfo v xs ys A m c ok hs hx HO HR HB hbase fun w1 h1_ h2 h3 => h w1 (by rw [← cpy_zero xs ys m HR.1]; exact h1_) h2 h3
end
end Go.Proofs.YtkbhilhefnahpaaGreat.Print
