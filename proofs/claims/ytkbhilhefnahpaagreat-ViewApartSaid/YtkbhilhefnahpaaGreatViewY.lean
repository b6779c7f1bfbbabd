/- MapE, Reg, ViewG, ViewH, ViewI, ViewJ, ViewM in one text. -/
import Derived.Test.YtkbhilhefnahpaaGreatMapL
import Derived.WideKeyEntry
import Derived.StillTail
import Derived.Test.YtkbhilhefnahpaaGreatViewX
import Derived.Test.YtkbhilhefnahpaaGreatHArr
import Derived.Test.YtkbhilhefnahpaaGreatPrint8
import Derived.Test.YtkbhilhefnahpaaGreatPrint7
namespace Go.Proofs.YtkbhilhefnahpaaGreat.ML
open Go Go.Maps Go.RowKit Go.ChangeMaps Go.MapKept Go.WideElems
set_option linter.unusedVariables false
set_option linter.unusedSimpArgs false
section
variable {P : Program} {e : TypeId} {α : Type} {x : EK P e α} {k t : TypeId} {w : World} {b : Nat} {m : List (Int × α)}
theorem born_last {es : Array MapEntry} {clock : Nat} {key z : Value} (s1 : ∀ y ∈ es.toList, y.born < clock) (s2 : (es.toList.map (·.born)).Nodup) :
  (es.push ⟨key, z, clock⟩).findIdx? (fun e => ((e.born : Nat) : Int) == ((clock : Nat) : Int)) = some es.size := by
 rw [findIdx_arr]
 refine findIdx_born (l := (es.push ⟨key, z, clock⟩).toList) (j := es.size) (e0 := ⟨key, z, clock⟩) ?_ (by simp)
 rw [Array.toList_push, List.map_append, List.map_cons, List.map_nil, List.nodup_append]
 refine ⟨s2, by simp, fun a ha c hc h => ?_⟩
 obtain ⟨y, hy, rfl⟩ := List.mem_map.1 ha
 have h1 := s1 y hy
 have h2 : c = clock := by simpa using hc
 omega
theorem set_last {es : Array MapEntry} {a : MapEntry} (f : MapEntry → MapEntry) : (es.push a).modify es.size f = es.push (f a) := by
 apply Array.ext'
 rw [Array.toList_modify, Array.toList_push, Array.toList_push, ← Array.length_toList, modify_last]
theorem modify_two {es : Array MapEntry} {j : Nat} {a : MapEntry} (h : es.toList[j]? = some a) (f g : MapEntry → MapEntry) (hfg : f a = g a) : es.modify j f = es.modify j g := by
 apply Array.ext'
 rw [Array.toList_modify, Array.toList_modify, modify_eq_set _ _ _ _ h, modify_eq_set _ _ _ _ h, hfg]
theorem modify_none {es : Array MapEntry} {j : Nat} {a : MapEntry} (h : es.toList[j]? = some a) (f : MapEntry → MapEntry) (hf : f a = a) : es.modify j f = es := by
 apply Array.ext'
 rw [Array.toList_modify, modify_eq_set _ _ _ _ h, hf]
 exact set_self _ _ _ h
theorem IsM.entry (T : MT P t k e) (h : IsM x k w b m) (hn : m.length < 4611686018427387904) (key : Int) (v : α) (hkey : (Lit.int .i64 key).wf = true) (hok : x.ok v) :
  ∃ (v0 : Value) (st : Nat) (w1 : World), (Instr.mapEntry t (.map (some b)) (.int .i64 key)).run P w = .ok (.tuple #[v0, goInt st]) w1 ∧ w.mapTurned w1 b ∧
   ∀ (w2 : World), w2.heap[b]? = w1.heap[b]? → ∃ w3, (Instr.entryStore t (.map (some b)) (goInt st) (x.val v)).run P w2 = .ok () w3 ∧ IsM x k w3 b (put m key v) ∧ w2.mapTurned w3 b := by
 have h0 := h
 obtain ⟨es, clock, hb, F, hs, hD⟩ := h
 obtain ⟨s1, s2, _⟩ := F.stamped
 have K := T.keyed
 have hkl := keyOf_int_mk T.hk hkey
 have fin : ∀ (w2 : World) (es1 es' : Array MapEntry) (clock1 clock' : Nat), w2.heap[b]? = some (.map es1 clock1) → (Instr.mapUpdate t (.map (some b)) (.int .i64 key) (x.val v)).run P w = .ok () (setBlock w b (.map es' clock')) →
   IsM x k (setBlock w2 b (.map es' clock')) b (put m key v) ∧ w2.mapTurned (setBlock w2 b (.map es' clock')) b := by
  intro w2 es1 es' clock1 clock' hw2 hu
  obtain ⟨w', hrun, r1, r2⟩ := World.ownsMap.store h0 T.keyed T.ht (show m.length < maxLen by unfold maxLen; omega) hkl (x.plain _ hok)
  rw [hu] at hrun
  injection hrun with _ hrun
  subst hrun
  have r3 : IsM x k (setBlock w b (.map es' clock')) b (put m key v) := IsM.of (by rw [← D_put]; exact r1)
  exact ⟨r3.block (by rw [heap_setBlock_same hb, heap_setBlock_same hw2]), ⟨es1, clock1, es', clock', hw2, rfl⟩⟩
 rcases K.find w hkl es.toList F.keys with ⟨h1, h2⟩ | ⟨j, a, h1, h2, h3⟩
 ·refine ⟨x.val x.zero, clock, setBlock w b (.map (es.push ⟨.int .i64 key, x.val x.zero, clock⟩) (clock + 1)), ?_, ⟨es, clock, _, _, hb, rfl⟩, fun w2 hw2 => ?_⟩
  ·simp [Instr.mapEntry, run_underlying T.ht, MapKept.run_getObj_map hb, K.check w false hkl, h1, x.zrun, MapKept.run_setObj_map _ hb, Result.andThen, setBlock]
  ·rw [heap_setBlock_same hb] at hw2
   refine ⟨setBlock w2 b (.map (es.push ⟨.int .i64 key, x.val v, clock⟩) (clock + 1)), ?_, fin w2 _ _ _ _ hw2 ?_⟩
   ·simp [Instr.entryStore, MapKept.run_getObj_map hw2, asInt, asIntOf, goInt, born_last s1 s2, set_last, MapKept.run_setObj_map _ hw2, Result.andThen, setBlock]
   ·simp [Instr.mapUpdate, run_underlying T.ht, MapKept.run_getObj_map hb, K.check w false hkl, h1, MapKept.run_setObj_map _ hb, Result.andThen, setBlock]
 ·have hj : es[j]? = some a := by simpa using h2
  refine ⟨a.val, a.born, setBlock w b (.map es clock), ?_, ⟨es, clock, _, _, hb, rfl⟩, fun w2 hw2 => ?_⟩
  ·have hsame := modify_none h2 (fun e => { e with key := .int .i64 key }) (by rw [← h3])
   simp [Instr.mapEntry, run_underlying T.ht, MapKept.run_getObj_map hb, K.check w false hkl, h1, hj, h3, K.stays w hkl, hsame, MapKept.run_setObj_map _ hb, Result.andThen, setBlock]
  ·rw [heap_setBlock_same hb] at hw2
   have hidx : es.findIdx? (fun e => ((e.born : Nat) : Int) == ((a.born : Nat) : Int)) = some j := by
    rw [findIdx_arr]
    exact findIdx_born s2 h2
   have hmod := modify_two h2 (fun e => { e with val := x.val v }) (fun e' => { e' with key := .int .i64 key, val := x.val v }) (by rw [← h3])
   refine ⟨setBlock w2 b (.map (es.modify j fun e' => { e' with key := .int .i64 key, val := x.val v }) clock), ?_, fin w2 _ _ _ _ hw2 ?_⟩
   ·simp [Instr.entryStore, MapKept.run_getObj_map hw2, asInt, asIntOf, goInt, hidx, hmod, MapKept.run_setObj_map _ hw2, Result.andThen, setBlock]
   ·simp [Instr.mapUpdate, run_underlying T.ht, MapKept.run_getObj_map hb, K.check w false hkl, h1, hj, h3, K.stays w hkl, MapKept.run_setObj_map _ hb, Result.andThen, setBlock]
end
end Go.Proofs.YtkbhilhefnahpaaGreat.ML
namespace Go.Proofs.YtkbhilhefnahpaaGreat.Reg
open Go
set_option linter.unusedVariables false
set_option linter.unusedSimpArgs false
section
variable {P : Program} {ops : Array Oper} {md : Region.Mode} {Inv : World → Prop}
def noQ : Exit → Act → World → Prop := fun _ _ _ => False
/-- An operation yields v, in every world that is so. -/
def Loc (P : Program) (ops : Array Oper) (Inv : World → Prop) (o : Oper) (v : Value) (a : Act) : Prop := ∀ W, Inv W →
 (Region.wanted o (yielded ops a.tmps) = true ∧ ((execOp a.eval o).run P W = .ok (.value v) W ∨ ((execOp a.eval o).run P W = .ok .skip W ∧ v = undef))) ∨
 (Region.wanted o (yielded ops a.tmps) = false ∧ v = undef)
/-- An operation, whatever it does. -/
def opE (P : Program) (ops : Array Oper) (Inv : World → Prop) (o : Oper) (K : Act → World → Prop) (a : Act) (w : World) : Prop :=
 if Region.wanted o (yielded ops a.tmps) = true then o.wp P a w (fun a' w' => Inv w' ∧ K a' w') noQ else K (a.put o.dst undef) w
theorem act_eval_tmps {a a' : Act} (h : a'.tmps = a.tmps) : a'.eval = a.eval := by
 funext x
 cases x <;> simp [Act.eval, h]
theorem Loc.of_tmps {o : Oper} {v : Value} {a a' : Act} (h : a'.tmps = a.tmps) (hl : Loc P ops Inv o v a) : Loc P ops Inv o v a' := by
 intro W hW
 have := hl W hW
 rw [act_eval_tmps h, h]
 exact this
theorem Loc.put {o o' : Oper} (hs : ∀ cs b, o.op ≠ .select cs b) {v : Value} {a : Act} {d : Option Tmp} (u : Value) (hd : ∀ t, d = some t → t ∉ o.looksAt ops) : Loc P ops Inv o v (a.put d u) ↔ Loc P ops Inv o v a := by
 unfold Loc
 rw [execOp_put (ops := ops) o hs a d u hd, wanted_put o a d u hd]
theorem Loc.uniq {o : Oper} {v v' : Value} {a : Act} {w : World} (hw : Inv w) (h : Loc P ops Inv o v a) (h' : Loc P ops Inv o v' a) : v = v' := by
 rcases h w hw with ⟨h1, h2⟩ | ⟨h1, h2⟩ <;> rcases h' w hw with ⟨h1', h2'⟩ | ⟨h1', h2'⟩
 ·rcases h2 with h2 | ⟨h2, rfl⟩ <;> rcases h2' with h2' | ⟨h2', rfl⟩ <;> rw [h2] at h2' <;> cases h2' <;> rfl
 ·rw [h1] at h1'; cases h1'
 ·rw [h1] at h1'; cases h1'
 ·rw [h2, h2']
theorem Loc.opE {o : Oper} {v : Value} {a : Act} {w : World} {K : Act → World → Prop} (hw : Inv w) (h : Loc P ops Inv o v a) (hK : K (a.put o.dst v) w) : opE P ops Inv o K a w := by
 unfold Reg.opE
 rcases h w hw with ⟨h1, h2⟩ | ⟨h1, rfl⟩
 ·rw [if_pos h1]
  unfold Oper.wp
  rcases h2 with h2 | ⟨h2, rfl⟩
  ·rw [h2]; exact ⟨hw, hK⟩
  ·rw [h2]; exact ⟨hw, hK⟩
 ·rw [if_neg (by rw [h1]; simp)]
  exact hK
/-- What an operation leaves in the frame: one slot, and maybe calls that are put off. -/
def Left (o : Oper) (a a' : Act) : Prop := ∃ u, a'.tmps = (a.put o.dst u).tmps
theorem wp_mono {o : Oper} {a : Act} {w : World} {K K' : Act → World → Prop} {Q Q' : Exit → Act → World → Prop} (hq : ∀ e a w, Q e a w → Q' e a w) (h : ∀ a' w', Left o a a' → K a' w' → K' a' w') (hh : o.wp P a w K Q) : o.wp P a w K' Q' := by
 unfold Oper.wp at *
 generalize (execOp a.eval o).run P w = r at *
 cases r with
 | ok n w' =>
  cases n <;> simp only [Oper.upon] at hh ⊢
  case value u => exact h _ _ ⟨u, rfl⟩ hh
  case skip => exact h _ _ ⟨undef, rfl⟩ hh
  case defer d => exact h _ _ ⟨undef, by cases o.dst <;> rfl⟩ hh
  case enter f args =>
   refine hh.mono fun e w'' he => ?_
   cases e with
   | returned v => exact h _ _ ⟨v, rfl⟩ he
   | panicked ch => exact hq _ _ _ he
   | outgrown => obtain ⟨a0, w0, h0⟩ := he; exact ⟨a0, w0, hq _ _ _ h0⟩
  case row rw_ args => exact hh.mono fun v w'' hv => h _ _ ⟨v, rfl⟩ hv
 | halt x w' =>
  cases x <;> simp only [Oper.upon] at hh ⊢
  case panic v => exact hq _ _ _ hh
theorem YD {o : Oper} {a : Act} {w : World} {K K' : Act → World → Prop} (h : ∀ a' w', Left o a a' → K a' w' → K' a' w') (hh : opE P ops Inv o K a w) : opE P ops Inv o K' a w := by
 unfold opE at *
 split
 ·rename_i hw
  rw [if_pos hw] at hh
  exact wp_mono (fun _ _ _ h => h) (fun a' w' hl hk => ⟨hk.1, h a' w' hl hk.2⟩) hh
 ·rename_i hw
  rw [if_neg hw] at hh
  exact h _ _ ⟨undef, rfl⟩ hh
/-- An operation comes to something. -/
theorem opE_some {o : Oper} {a : Act} {w : World} {K : Act → World → Prop} (hh : opE P ops Inv o K a w) : ∃ a' w', Left o a a' ∧ K a' w' := by
 unfold opE at hh
 split at hh
 ·unfold Oper.wp at hh
  generalize (execOp a.eval o).run P w = r at hh
  cases r with
  | ok n w' =>
   cases n <;> simp only [Oper.upon] at hh
   case value u => exact ⟨_, _, ⟨u, rfl⟩, hh.2⟩
   case skip => exact ⟨_, _, ⟨undef, rfl⟩, hh.2⟩
   case defer d => exact ⟨_, _, ⟨undef, by cases o.dst <;> rfl⟩, hh.2⟩
   case enter f args =>
    obtain ⟨e, w', fr, hR, _⟩ := hh []
    cases e with
    | returned v => exact ⟨_, _, ⟨v, rfl⟩, hR.2⟩
    | panicked ch => exact hR.elim
    | outgrown => obtain ⟨_, _, h0⟩ := hR; exact h0.elim
   case row rw_ args =>
    obtain ⟨v, w', hR, _⟩ := hh default []
    exact ⟨_, _, ⟨v, rfl⟩, hR.2⟩
  | halt x w' => cases x <;> simp only [Oper.upon] at hh <;> exact hh.elim
 ·exact ⟨_, _, ⟨undef, rfl⟩, hh⟩
/-- A slot that the operation does not look at may be filled before or behind it. -/
theorem opE_put {o : Oper} (hs : ∀ cs b, o.op ≠ .select cs b) {a : Act} {w : World} {K : Act → World → Prop} {d : Option Tmp} (v : Value) (hd : ∀ t, d = some t → t ∉ o.looksAt ops) (hne : ∀ t, d = some t → o.dst ≠ some t) :
  opE P ops Inv o K (a.put d v) w ↔ opE P ops Inv o (fun a' w' => K (a'.put d v) w') a w := by
 unfold opE
 rw [wanted_put o a d v hd]
 have hc : ∀ (a : Act) u, (a.put d v).put o.dst u = (a.put o.dst u).put d v := fun a u => Act.put_comm a v u hne
 split
 ·unfold Oper.wp
  rw [execOp_put (ops := ops) o hs a d v hd]
  generalize (execOp a.eval o).run P w = r
  cases r with
  | ok n w' =>
   cases n <;> simp only [Oper.upon]
   case value u => rw [hc]
   case skip => rw [hc]
   case defer dd =>
    have e : ({ (a.put d v) with defers := dd :: (a.put d v).defers } : Act).put o.dst undef = (({ a with defers := dd :: a.defers } : Act).put o.dst undef).put d v := by
     have h := congrArg Act.tmps (hc a undef)
     revert h
     cases d <;> cases o.dst <;> simp [Act.put]
    rw [e]
   case enter f args => simp only [hc]; exact Iff.rfl
   case row rw_ args => simp only [hc]
  | halt x w' => cases x <;> simp only [Oper.upon] <;> exact Iff.rfl
 ·rw [hc]

/-- The walk in the order of the text. ev: which operations are events (calls, and what makes or writes memory). -/
def wpC (P : Program) (ops : Array Oper) (Inv : World → Prop) (ev : Nat → Bool) (Q : Act → World → Prop) : List Nat → Act → World → Prop
 | [], a, w => Q a w
 | i :: r, a, w => ∃ o, ops[i]? = some o ∧ if ev i = true then opE P ops Inv o (fun a' w' => Inv w' ∧ wpC P ops Inv ev Q r a' w') a w else ∃ v, Loc P ops Inv o v a ∧ wpC P ops Inv ev Q r (a.put o.dst v) w
variable {ev : Nat → Bool} {Q : Act → World → Prop}
theorem wpC_swap {x j : Nat} {ox oj : Oper} (hx : ops[x]? = some ox) (hj : ops[j]? = some oj) (hsx : ∀ cs b, ox.op ≠ .select cs b) (hsj : ∀ cs b, oj.op ≠ .select cs b) (hap : ox.apart ops oj = true) (hev : ¬ (ev x = true ∧ ev j = true)) {r : List Nat} {a : Act} {w : World} (hw : Inv w)
  (h : wpC P ops Inv ev Q (x :: j :: r) a w) : wpC P ops Inv ev Q (j :: x :: r) a w := by
 obtain ⟨p1, p2, p3⟩ := Oper.apart_spec hap
 have p2' : ∀ d, oj.dst = some d → ox.dst ≠ some d := fun d hd he => p2 d he hd
 simp only [wpC] at h ⊢
 obtain ⟨o1, e1, h⟩ := h
 rw [hx] at e1
 obtain rfl := Option.some.inj e1
 refine ⟨oj, hj, ?_⟩
 by_cases ex : ev x = true
 ·have ej : ¬ ev j = true := fun h => hev ⟨ex, h⟩
  rw [if_pos ex] at h
  rw [if_neg ej]
  simp only [if_neg ej] at h
  obtain ⟨a1, w1, ⟨u, hu⟩, h1, o2, e2, vj, hl, _⟩ := opE_some h
  rw [hj] at e2
  obtain rfl := Option.some.inj e2
  have hla : Loc P ops Inv oj vj a := (Loc.put (o' := oj) hsj u p1).1 (hl.of_tmps hu.symm)
  refine ⟨vj, hla, ox, hx, ?_⟩
  rw [if_pos ex]
  rw [opE_put hsx vj p3 p2']
  refine YD (fun a' w' hleft hk => ?_) h
  obtain ⟨hi, o3, e3, v3, hl3, hk3⟩ := hk
  rw [hj] at e3
  obtain rfl := Option.some.inj e3
  obtain ⟨u', hu'⟩ := hleft
  have hl3a : Loc P ops Inv oj v3 a := (Loc.put (o' := oj) hsj u' p1).1 (hl3.of_tmps hu'.symm)
  have := Loc.uniq hw hla hl3a
  subst this
  exact ⟨hi, hk3⟩
 ·rw [if_neg ex] at h
  obtain ⟨vx, hlx, o2, e2, h⟩ := h
  rw [hj] at e2
  obtain rfl := Option.some.inj e2
  by_cases ej : ev j = true
  ·rw [if_pos ej] at h ⊢
   rw [opE_put hsj vx p1 p2] at h
   refine YD (fun a' w' hleft hk => ⟨hk.1, ox, hx, ?_⟩) h
   rw [if_neg ex]
   obtain ⟨u, hu⟩ := hleft
   exact ⟨vx, ((Loc.put (o' := ox) hsx u p3).2 hlx).of_tmps hu, hk.2⟩
  ·rw [if_neg ej] at h ⊢
   obtain ⟨vj, hlj, hk⟩ := h
   refine ⟨vj, (Loc.put (o' := oj) hsj vx p1).1 hlj, ox, hx, ?_⟩
   rw [if_neg ex]
   refine ⟨vx, (Loc.put (o' := ox) hsx vj p3).2 hlx, ?_⟩
   rw [← Act.put_comm a vx vj p2]
   exact hk
/-- Whatever is done first, the rest can be done behind it. -/
theorem wpC_cons_mono {i : Nat} {r r' : List Nat} (h : ∀ a w, Inv w → wpC P ops Inv ev Q r a w → wpC P ops Inv ev Q r' a w) {a : Act} {w : World} (hw : Inv w) (hh : wpC P ops Inv ev Q (i :: r) a w) : wpC P ops Inv ev Q (i :: r') a w := by
 simp only [wpC] at hh ⊢
 obtain ⟨o, ho, hh⟩ := hh
 refine ⟨o, ho, ?_⟩
 split
 ·rename_i he
  rw [if_pos he] at hh
  exact YD (fun a' w' _ hk => ⟨hk.1, h a' w' hk.1 hk.2⟩) hh
 ·rename_i he
  rw [if_neg he] at hh
  obtain ⟨v, hl, hk⟩ := hh
  exact ⟨v, hl, h _ _ hw hk⟩
theorem wpC_front {j : Nat} {oj : Oper} (hj : ops[j]? = some oj) (hsel : ∀ (i : Nat) (o : Oper) cs b, ops[i]? = some o → o.op ≠ .select cs b) : ∀ (l1 : List Nat) (r : List Nat),
  (∀ x ∈ l1, ∃ ox, ops[x]? = some ox ∧ ox.apart ops oj = true ∧ ¬ (ev x = true ∧ ev j = true)) → ∀ (a : Act) (w : World), Inv w → wpC P ops Inv ev Q (l1 ++ j :: r) a w → wpC P ops Inv ev Q (j :: (l1 ++ r)) a w
 | [], r, _, a, w, _, h => h
 | x :: l1, r, hx, a, w, hw, h => by
  have h1 : wpC P ops Inv ev Q (x :: j :: (l1 ++ r)) a w := wpC_cons_mono (fun a' w' hw' h' => wpC_front hj hsel l1 r (fun y hy => hx y (by simp [hy])) a' w' hw' h') hw h
  obtain ⟨ox, e1, e2, e3⟩ := hx x (by simp)
  exact wpC_swap e1 hj (fun cs b => hsel _ _ cs b e1) (fun cs b => hsel _ _ cs b hj) e2 e3 hw h1
/-- A reaches what it waits for. -/
def deps (md : Region.Mode) (ops : Array Oper) (j : Nat) : List Nat := match ops[j]? with
 | some o => (o.after.toList.filter fun e => Region.binds md e).map (·.on)
 | none => []
def reach (md : Region.Mode) (ops : Array Oper) : Nat → Nat → Nat → Bool
 | 0, _, _ => false
 | n + 1, j, i => (deps md ops j).contains i || (deps md ops j).any fun k => decide (i < k) && reach md ops n k i
def Closed (md : Region.Mode) (ops : Array Oper) (listed : Array Bool) : Prop := ∀ j, listed.getD j false = true → ∀ i ∈ deps md ops j, listed.getD i false = true
theorem Zv {listed : Array Bool} (hc : Closed md ops listed) : ∀ (n j i : Nat), (∀ k ∈ deps md ops j, listed.getD k false = true) → reach md ops n j i = true → listed.getD i false = true
 | 0, _, _, _, h => by cases h
 | n + 1, j, i, hj, h => by
  simp only [reach, Bool.or_eq_true, List.any_eq_true, Bool.and_eq_true] at h
  rcases h with h | ⟨k, hk, _, hr⟩
  ·exact hj i (List.contains_iff_mem.1 h)
  ·exact Zv hc n k i (hc k (hj k hk)) hr
/-- The look at a region's text. -/
def fits (md : Region.Mode) (ops : Array Oper) (ev : Nat → Bool) : Bool :=
 Region.noSelect ops && (List.range ops.size).all fun j => (deps md ops j).all (fun k => decide (k < j)) && (List.range j).all fun i =>
  ((!(ev i && ev j)) && (match ops[i]?, ops[j]? with | some x, some y => x.apart ops y | _, _ => false)) || reach md ops ops.size j i
def wpE (P : Program) (md : Region.Mode) (ops : Array Oper) (Inv : World → Prop) (Q : Act → World → Prop) : Nat → Array Bool → Act → World → Prop
 | 0, listed, a, w => Region.ready md ops listed = [] ∧ Q a w
 | n + 1, listed, a, w => Region.ready md ops listed ≠ [] ∧ ∀ i ∈ Region.ready md ops listed, ∃ o, ops[i]? = some o ∧ opE P ops Inv o (wpE P md ops Inv Q n (listed.setIfInBounds i true)) a w
theorem YN {Q' : Exit → Act → World → Prop} (hQ : ∀ a w, Q a w → Q' .normal a w) : ∀ (n : Nat) (listed : Array Bool) (a : Act) (w : World), wpE P md ops Inv Q n listed a w → wpAny P md ops Q' n listed a w
 | 0, _, _, _, h => ⟨h.1, hQ _ _ h.2⟩
 | n + 1, listed, a, w, h => by
  refine ⟨fun h0 => absurd h0 h.1, fun i hi => ?_⟩
  obtain ⟨o, ho, he⟩ := h.2 i hi
  unfold wpOp
  simp only [ho]
  unfold opE at he
  split
  ·rename_i hw
   rw [if_pos hw] at he
   exact .inl (wp_mono (fun _ _ _ h => h.elim) (fun a' w' _ hk => YN hQ n _ a' w' hk.2) he)
  ·rename_i hw
   rw [if_neg hw] at he
   exact YN hQ n _ _ _ he
theorem Ye {listed : Array Bool} {i : Nat} (h : i < listed.size) : listed.getD i true = listed.getD i false := by simp [h]
theorem mem_deps {j i : Nat} {o : Oper} (ho : ops[j]? = some o) : i ∈ deps md ops j ↔ ∃ e ∈ o.after, Region.binds md e = true ∧ e.on = i := by
 simp only [deps, ho, List.mem_map, List.mem_filter]
 constructor
 ·rintro ⟨e, ⟨h1, h2⟩, h3⟩; exact ⟨e, by simpa using h1, h2, h3⟩
 ·rintro ⟨e, h1, h2, h3⟩; exact ⟨e, ⟨by simpa using h1, h2⟩, h3⟩
theorem wpE_of_C (hf : fits md ops ev = true) : ∀ (n : Nat) (l : List Nat) (listed : Array Bool) (a : Act) (w : World), l.length = n → l.Pairwise (· < ·) → listed.size = ops.size → (∀ i, i ∈ l ↔ i < ops.size ∧ listed.getD i false = false) → Closed md ops listed → Inv w →
  wpC P ops Inv ev Q l a w → wpE P md ops Inv Q n listed a w := by
 unfold fits at hf
 simp only [Bool.and_eq_true, List.all_eq_true, List.mem_range, decide_eq_true_eq, Bool.or_eq_true, Bool.not_eq_true'] at hf
 obtain ⟨hns, hf⟩ := hf
 have hsel := Region.noSelect_spec hns
 intro n
 induction n with
 | zero =>
  intro l listed a w hl _ hsz hmem _ _ h
  have : l = [] := List.eq_nil_of_length_eq_zero hl
  subst this
  refine ⟨?_, h⟩
  refine List.eq_nil_iff_forall_not_mem.2 fun i hi => ?_
  obtain ⟨h0, o, ho, _⟩ := mem_ready.1 hi
  have hlt := (Array.getElem?_eq_some_iff.1 ho).1
  have := (hmem i).2 ⟨hlt, by rw [Ye (by omega)] at h0; exact h0⟩
  cases this
 | succ n ih =>
  intro l listed a w hl hsort hsz hmem hcl hw h
  have hready : ∀ j ∈ Region.ready md ops listed, j ∈ l ∧ j < ops.size ∧ ∀ k ∈ deps md ops j, listed.getD k false = true := by
   intro j hj
   obtain ⟨h0, o, ho, hall⟩ := mem_ready.1 hj
   have hlt := (Array.getElem?_eq_some_iff.1 ho).1
   refine ⟨(hmem j).2 ⟨hlt, by rw [Ye (by omega)] at h0; exact h0⟩, hlt, fun k hk => ?_⟩
   obtain ⟨e, he, hb, rfl⟩ := (mem_deps ho).1 hk
   exact hall e he hb
  refine ⟨fun h0 => ?_, fun j hj => ?_⟩
  ·cases l with
   | nil => simp at hl
   | cons i r =>
    obtain ⟨hi, hun⟩ := (hmem i).1 (by simp)
    obtain ⟨o, ho⟩ : ∃ o, ops[i]? = some o := ⟨_, Array.getElem?_eq_getElem hi⟩
    have : i ∈ Region.ready md ops listed := mem_ready.2 ⟨by rw [Ye (by omega)]; exact hun, o, ho, fun e he hb => by
     have hk := (mem_deps (md := md) ho).2 ⟨e, he, hb, rfl⟩
     have hlt := (hf i hi).1 _ hk
     cases hc : listed.getD e.on false with
     | true => rfl
     | false =>
      have hm := (hmem e.on).2 ⟨by omega, hc⟩
      rcases List.mem_cons.1 hm with hm | hm
      ·omega
      ·have := (List.pairwise_cons.1 hsort).1 _ hm; omega⟩
    rw [h0] at this
    cases this
  ·obtain ⟨hjl, hjs, hdeps⟩ := hready j hj
   obtain ⟨oj, hoj⟩ : ∃ o, ops[j]? = some o := ⟨_, Array.getElem?_eq_getElem hjs⟩
   obtain ⟨l1, l2, rfl⟩ := List.append_of_mem hjl
   have hlt1 : ∀ x ∈ l1, x < j := fun x hx => (List.pairwise_append.1 hsort).2.2 x hx j (by simp)
   have hfront := wpC_front (P := P) (Inv := Inv) (ev := ev) (Q := Q) hoj (fun i o cs b ho => hsel i o cs b ho) l1 l2 (fun x hx => by
    obtain ⟨hxs, hxu⟩ := (hmem x).1 (by simp [hx])
    obtain ⟨ox, hox⟩ : ∃ o, ops[x]? = some o := ⟨_, Array.getElem?_eq_getElem hxs⟩
    refine ⟨ox, hox, ?_⟩
    rcases (hf j hjs).2 x (hlt1 x hx) with hh | hh
    ·rw [hox, hoj] at hh
     refine ⟨hh.2, fun he => ?_⟩
     have := hh.1
     rw [he.1, he.2] at this
     cases this
    ·have := Zv hcl _ _ _ hdeps hh
     rw [hxu] at this
     cases this) a w hw h
   refine ⟨oj, hoj, ?_⟩
   have hstep : ∀ a' w', Inv w' → wpC P ops Inv ev Q (l1 ++ l2) a' w' → wpE P md ops Inv Q n (listed.setIfInBounds j true) a' w' := by
    intro a' w' hw' hk
    refine ih (l1 ++ l2) _ a' w' (by simp at hl ⊢; omega) ?_ (by simp [hsz]) (fun i => ?_) ?_ hw' hk
    ·rw [List.pairwise_append] at hsort ⊢
     exact ⟨hsort.1, (List.pairwise_cons.1 hsort.2.1).2, fun x hx y hy => hsort.2.2 x hx y (by simp [hy])⟩
    ·have hnj1 : j ∉ l1 := fun hm => by have := hlt1 j hm; omega
     have hnj2 : j ∉ l2 := fun hm => by have := (List.pairwise_cons.1 (List.pairwise_append.1 hsort).2.1).1 j hm; omega
     by_cases hij : j = i
     ·subst hij
      constructor
      ·intro hm; simp only [List.mem_append] at hm; exact absurd hm (by simp [hnj1, hnj2])
      ·rintro ⟨h1, h2⟩
       rw [show (listed.setIfInBounds j true).getD j false = true from by simp [hsz, hjs]] at h2
       cases h2
     ·rw [getD_set_ne false hij, ← hmem i]
      simp only [List.mem_append, List.mem_cons]
      constructor
      ·rintro (h | h)
       ·exact .inl h
       ·exact .inr (.inr h)
      ·rintro (h | h | h)
       ·exact .inl h
       ·exact absurd h.symm hij
       ·exact .inr h
    ·intro k hk i hi
     by_cases hkj : j = k
     ·subst hkj
      exact getD_set_true (hdeps i hi)
     ·rw [getD_set_ne false hkj] at hk
      exact getD_set_true (hcl k hk i hi)
   simp only [wpC] at hfront
   obtain ⟨o, ho, hfront⟩ := hfront
   rw [hoj] at ho
   obtain rfl := Option.some.inj ho
   split at hfront
   ·exact YD (fun a' w' _ hk => hstep a' w' hk.1 hk.2) hfront
   ·obtain ⟨v, hl, hk⟩ := hfront
    exact hl.opE hw (hstep _ _ hw hk)
/-- THE REGION. -/
theorem wp_region_calls {id : Nat} {Q : Exit → Act → World → Prop} {a : Act} {w : World} {ops : Array Oper} (Inv : World → Prop) (ev : Nat → Bool) (hm : P.follows .mixedOrders = true) (hf : fits .any ops ev = true) (hw : Inv { w with drawn := w.drawn + 1 })
  (h : wpC P ops Inv ev (fun a w => Q .normal a w) (List.range ops.size) a { w with drawn := w.drawn + 1 }) : (Code.region id ops true).wp P Q a w := by
 refine wp_region_any hm ?_
 refine YN (Q := fun a w => Q .normal a w) (fun _ _ h => h) _ _ _ _ (wpE_of_C (Inv := Inv) hf ops.size (List.range ops.size) _ a _ (by simp) List.pairwise_lt_range (by simp) (fun i => ?_) (fun j hj => ?_) hw h)
 ·rw [List.mem_range, getD_replicate_false]
  simp
 ·rw [getD_replicate_false] at hj
  cases hj
/-- The walk over the operations themselves. -/
def wpS (P : Program) (ops : Array Oper) (Inv : World → Prop) (ev : Nat → Bool) (Q : Act → World → Prop) : List Oper → Nat → Act → World → Prop
 | [], _, a, w => Q a w
 | o :: r, i, a, w => if ev i = true then opE P ops Inv o (fun a' w' => Inv w' ∧ wpS P ops Inv ev Q r (i + 1) a' w') a w else ∃ v, Loc P ops Inv o v a ∧ wpS P ops Inv ev Q r (i + 1) (a.put o.dst v) w
theorem wpC_of_S : ∀ (l : List Oper) (i : Nat) (a : Act) (w : World), (∀ j, l[j]? = ops[i + j]?) → wpS P ops Inv ev Q l i a w → wpC P ops Inv ev Q (List.range' i l.length) a w
 | [], _, _, _, _, h => h
 | o :: r, i, a, w, hl, h => by
  have hr : ∀ j, r[j]? = ops[i + 1 + j]? := fun j => by have := hl (j + 1); rw [List.getElem?_cons_succ] at this; rw [this]; congr 1; omega
  refine ⟨o, by have := hl 0; simpa using this.symm, ?_⟩
  unfold wpS at h
  split
  ·rename_i he
   rw [if_pos he] at h
   exact YD (fun a' w' _ hk => ⟨hk.1, wpC_of_S r (i + 1) a' w' hr hk.2⟩) h
  ·rename_i he
   rw [if_neg he] at h
   obtain ⟨v, hl, hk⟩ := h
   exact ⟨v, hl, wpC_of_S r (i + 1) _ _ hr hk⟩
/-- THE REGION, walked. -/
theorem yj {id : Nat} {Q : Exit → Act → World → Prop} {a : Act} {w : World} {l : List Oper} (Inv : World → Prop) (ev : Nat → Bool) (hm : P.follows .mixedOrders = true) (hf : fits .any l.toArray ev = true) (hw : Inv w.drew)
  (h : wpS P l.toArray Inv ev (fun a w => Q .normal a w) l 0 a w.drew) : (Code.region id l.toArray true).wp P Q a w := by
 refine wp_region_calls Inv ev hm hf hw ?_
 have := wpC_of_S l 0 a w.drew (fun j => by simp) h
 rw [List.size_toArray, List.range_eq_range']
 exact this
theorem S_nil {i : Nat} {a : Act} {w : World} (h : Q a w) : wpS P ops Inv ev Q [] i a w := h
/-- One step: an operation that yields v. -/
theorem S_val {i : Nat} {r : List Oper} {a : Act} {w : World} {o : Oper} {v : Value} (he : ev i = false) (hw : Region.wanted o (yielded ops a.tmps) = true) (hv : ∀ W, Inv W → ∀ R : Result Next → Prop, R (.ok (.value v) W) → R ((execOp a.eval o).run P W))
  (h : wpS P ops Inv ev Q r (i + 1) (a.put o.dst v) w) : wpS P ops Inv ev Q (o :: r) i a w := by
 unfold wpS
 rw [if_neg (by rw [he]; simp)]
 exact ⟨v, fun W hW => .inl ⟨hw, .inl (hv W hW (fun x => x = .ok (.value v) W) rfl)⟩, h⟩
/-- One step: an operation that is passed by. -/
theorem S_off {i : Nat} {r : List Oper} {a : Act} {w : World} {o : Oper} (hw : Region.wanted o (yielded ops a.tmps) = false) (hi : Inv w)
  (h : wpS P ops Inv ev Q r (i + 1) (a.put o.dst undef) w) : wpS P ops Inv ev Q (o :: r) i a w := by
 unfold wpS
 split
 ·unfold opE
  rw [if_neg (by rw [hw]; simp)]
  exact ⟨hi, h⟩
 ·exact ⟨undef, fun W hW => .inr ⟨hw, rfl⟩, h⟩
/-- One step: a call. -/
theorem yC {i : Nat} {r : List Oper} {a : Act} {w : World} {o : Oper} {f : FuncId} {args : Array Value} {R : Ending → World → Prop} (he : ev i = true) (hw : Region.wanted o (yielded ops a.tmps) = true) (hx : (execOp a.eval o).run P w = .ok (.enter f args) w)
  (hc : Calls P f args w R) (h : ∀ e w', R e w' → ∃ v, e = .returned v ∧ Inv w' ∧ wpS P ops Inv ev Q r (i + 1) (a.put o.dst v) w') : wpS P ops Inv ev Q (o :: r) i a w := by
 unfold wpS
 rw [if_pos he]
 unfold opE
 rw [if_pos hw]
 unfold Oper.wp
 rw [hx]
 simp only [Oper.upon]
 refine hc.mono fun e w' hR => ?_
 obtain ⟨v, rfl, hi, hk⟩ := h e w' hR
 exact ⟨hi, hi, hk⟩
theorem zG {o : Oper} {y : Nat → Option Bool} (h : o.guard = none) : Region.wanted o y = true := by simp [Region.wanted, h]
theorem zI {o : Oper} {tmps : Array Value} {j : Nat} {b : Bool} {d : Tmp} (h : o.guard = some (j, b)) (hd : (ops[j]?).bind (·.dst) = some d) (ht : tmps[d]? = some (.bool b)) : Region.wanted o (yielded ops tmps) = true := by
 simp [Region.wanted, h, yielded, hd, ht]
theorem ZI {o : Oper} {tmps : Array Value} {j : Nat} {b : Bool} {d : Tmp} (h : o.guard = some (j, !b)) (hd : (ops[j]?).bind (·.dst) = some d) (ht : tmps[d]? = some (.bool b)) : Region.wanted o (yielded ops tmps) = false := by
 simp [Region.wanted, h, yielded, hd, ht]
end
end Go.Proofs.YtkbhilhefnahpaaGreat.Reg
namespace Go.Proofs.YtkbhilhefnahpaaGreat.Vw
open Go Go.RowKit Go.Proofs.YtkbhilhefnahpaaGreat.ML Go.Proofs.YtkbhilhefnahpaaGreat.Mem Go.Proofs.YtkbhilhefnahpaaGreat.Print Go.Proofs.YtkbhilhefnahpaaGreatW.PrintWords Go.Proofs.YtkbhilhefnahpaaGreatW.PrintLast Go.Proofs.YtkbhilhefnahpaaGreatW.PrintMore
set_option linter.unusedVariables false
set_option linter.unusedSimpArgs false
theorem ZZ {L : List Nat} {w w' : World} (t : Turn L w w') {a : Addr} {u : Value} (h : w.cell? a = some u) (hL : ∀ b ∈ L, ∀ c e fr, w.heap[b]? ≠ some (.cells c e fr)) : w'.cell? a = some u := by
 unfold World.cell? at h ⊢
 cases hh : w.heap[a.block]? with
 | none => simp [hh] at h
 | some o =>
  have hlt := (Array.getElem?_eq_some_iff.1 hh).1
  by_cases hm : a.block ∈ L
  ·have hc := hL _ hm
   cases o <;> simp [hh] at h hc
  ·rw [t.block _ hlt hm, hh]
   rw [hh] at h
   exact h
theorem C_turn {q : IntKind} {L : List Nat} {w w' : World} {A : Option Addr} {n : Nat} {l : List Int} (h : Kd.C (Kd.int q) w A n l) (t : Turn L w w') (hL : ∀ b ∈ L, ∀ c e fr, w.heap[b]? ≠ some (.cells c e fr)) : Kd.C (Kd.int q) w' A n l := by
 obtain ⟨h1, h2, h3⟩ := h
 refine ⟨h1, h2, fun h0 => ?_⟩
 obtain ⟨ad, hA, h4⟩ := h3 h0
 refine ⟨ad, hA, fun j p hj => ?_⟩
 obtain ⟨cs, e1, e2, h5⟩ := h4 j p hj
 exact ⟨cs, e1, e2, fun i u hi => ZZ t (h5 i u hi) hL⟩
theorem ZM {α : Type} {e : TypeId} {x : EK Tryz.prog e α} {k : TypeId} {w : World} {b : Nat} {m : List (Int × α)} (h : IsM x k w b m) : ∀ b' ∈ [b], ∀ c e fr, w.heap[b']? ≠ some (.cells c e fr) := by
 intro b' hb c e' fr hc
 obtain rfl : b' = b := by simpa using hb
 exact h.Zi hc rfl
/-- Words written one behind the other. -/
def putsL (m : List (Int × Int)) (i : Int) : List Int → List (Int × Int)
 | [] => m
 | v :: r => putsL (ML.put m i v) (i + 1) r
theorem putsL_snoc (l : List Int) (v : Int) : ∀ (m : List (Int × Int)) (i : Int), putsL m i (l ++ [v]) = ML.put (putsL m i l) (i + l.length) v := by
 induction l with
 | nil => intro m i; simp [putsL]
 | cons x r ih =>
  intro m i
  simp only [List.cons_append, putsL, ih, List.length_cons]
  congr 1
  omega
def VS.puts (V : VS) (i : Int) (l : List Int) : VS := { V with own := putsL V.own i l }
theorem VS.puts_snoc (V : VS) (i : Int) (l : List Int) (v : Int) : V.puts i (l ++ [v]) = (V.puts i l).put (i + l.length) v := by simp [VS.puts, VS.put, putsL_snoc]
set_option maxHeartbeats 1000000 in
theorem write_calls {w : World} {q : Vp} {f : Fp} {V : VS} (h : zR w q f V) {A : Option Addr} {c : Nat} {l : List Int} (i : Int) (hr : Kd.C (Kd.int .u64) w A l.length l) (h0 : 0 ≤ i) (h1 : i + l.length ≤ 2824) (hw : ∀ v ∈ l, okw v) :
  Calls Tryz.prog 55 #[vptr q, .int .i64 i, .slice A l.length c] w fun e w' => e = .returned (.tuple #[]) ∧ zR w' q f (V.puts i l) ∧ Turn [q.bo] w w' := by
 have HV := ze.mk h
 have HR := ze.mk hr
 have HW := ze.mk hw
 clear hr hw h
 go_enter Tryz.func55, Tryz.ntmps55
 go_wp2
 go_loopw [10] (fun x wr => ∃ j : Nat, j ≤ l.length ∧ x = .int .i64 (j : Int) ∧ zR wr q f (V.puts i (l.take j)) ∧ Turn [q.bo] w wr) (fun x _ => l.length - (intOf x).toNat)
 case atStart => exact ⟨0, by omega, rfl, HV.o, Turn.refl _ _⟩
 case round =>
  obtain ⟨j, hj, rfl, hv, ht⟩ := hrel
  have VV := ze.mk hv
  have TT := ze.mk ht
  clear hv ht
  by_cases hlt : j < l.length
  ·obtain ⟨ad, hA, hx⟩ := Kd.zX (C_turn HR.o TT.o (ZM HV.o.own)) (j : Int) (by omega) (by omega)
   obtain ⟨k, hk⟩ : ∃ k, l[j]? = some k := ⟨_, List.getElem?_eq_getElem hlt⟩
   have hkd : rd l (j : Int) = k := by unfold rd; rw [Int.toNat_natCast, List.getD_eq_getElem?_getD, hk]; rfl
   have hko := HW.o k (List.mem_of_getElem? hk)
   have ht : l.take (j + 1) = l.take j ++ [k] := by rw [List.take_add_one, hk]; rfl
   rw [hkd] at hx
   replace hx : wr.cell? (ad.add j) = some (.int .u64 k) := by simpa using hx
   subst hA
   have HK := ze.mk hko
   have HT := ze.mk ht
   have c1 := VV.o.facts.c1
   have HJ := ze.mk (show 0 ≤ i + (j : Int) ∧ i + (j : Int) < 2824 by omega)
   have hij : IntKind.i64.wrap (i + (j : Int)) = i + (j : Int) := by simp [IntKind.wrap, IntKind.signed, IntKind.bits]; omega
   clear hkd hko ht hk
   go_wp2_with (at_mapUpdate; refine wp_put (x := ek) mt rfl _ _ _ rfl rfl VV.o.own (by have := VV.o.own_len; omega) (i + (j : Int)) k (by first | rfl | (go_simp; done) | (simp only [hij]; rfl)) rfl (YF (by have := HJ.o; unfold oki; omega)) (okw_wf HK.o) ?_; intro w2 hm2 ht2; obtain ⟨r1, r2⟩ := VV.o.turnOwn HJ.o.1 HJ.o.2 HK.o ht2 hm2; have V2 := ze.mk r1; have T2 := ze.mk (TT.o.trans r2); clear hm2 ht2 r1 r2)
   go_roundw
   case rel =>
    refine ⟨j + 1, by omega, by go_num, ?_, T2.o⟩
    rw [HT.o, VS.puts_snoc, List.length_take, Nat.min_eq_left (by omega)]
    exact V2.o
   case measure => simp [intOf]; omega
  ·obtain rfl : j = l.length := by omega
   clear hlt hj
   go_wp2
   go_returns
   refine ⟨rfl, ?_, TT.o⟩
   have := VV.o
   rw [List.take_length] at this
   exact this
/-- Words as the view has them. -/
def VS.reads (V : VS) (S : MS) (i : Int) (n : Nat) : List Int := (List.range n).map fun (j : Nat) => V.read S (i + j)
theorem VS.Zh (V : VS) (S : MS) (i : Int) (n : Nat) : (V.reads S i n).length = n := by simp [VS.reads]
theorem VS.reads_step (V : VS) (S : MS) (i : Int) (n j : Nat) (hj : j < n) : (V.reads S i j ++ List.replicate (n - j) 0).set j (V.read S (i + j)) = V.reads S i (j + 1) ++ List.replicate (n - (j + 1)) 0 := by
 rw [List.set_append_right _ _ (by rw [VS.Zh]; exact Nat.le_refl _), VS.Zh, Nat.sub_self]
 have : n - j = (n - (j + 1)) + 1 := by omega
 rw [this, List.replicate_succ, List.set_cons_zero]
 unfold VS.reads
 rw [List.range_succ, List.map_append]
 simp
set_option maxHeartbeats 2000000 in
set_option maxRecDepth 100000 in
theorem read_calls {w : World} {q : Vp} {f : Fp} {V : VS} {S : MS} (h : zR w q f V) (hm : IsMem w f S) (i n : Int) (h0 : 0 ≤ i) (hn : 0 < n) (h1 : i + n ≤ 4096) :
  Calls Tryz.prog 52 #[vptr q, .int .i64 i, .int .i64 n] w fun e w' => ∃ v : Value, e = .returned v ∧ Kd.R (Kd.int .u64) 34 w' w.heap.size (fun _ => True) v (V.reads S i n.toNat) ∧ Below w.heap.size w w' := by
 have HV := ze.mk h
 have HM := ze.mk hm
 have HN := ze.mk (show 0 < n ∧ i + n ≤ 4096 from ⟨hn, h1⟩)
 have hn0 : 0 ≤ n := by omega
 have hnl : n ≤ 4096 := by omega
 have HI := ze.mk h0
 clear h hm h1
 go_enter Tryz.func52, Tryz.ntmps52
 go_wp2_with ((with_reducible refine zD (N := 10) rfl ?_); refine Kd.YX (Kd.int .u64) _ 34 rfl (N := 10) rfl 24 _ _ rfl n rfl rfl Tryz.underlying24 (.int .u64 0) 8 YW rfl (by decide) (by omega) 0 (ok := fun _ => True) (okp := fun _ => True) rfl (fun _ hk => hk) trivial (by omega) (by omega) (Below.refl _ _) (Nat.le_refl _) ?_; intro v0 w1 hR hb hg hnw; obtain ⟨g, cap, e0, gb, gl, cl, hG⟩ := Kd.Yh hR (by rw [List.length_replicate]; omega); rw [List.length_replicate] at e0; subst e0; have HR := ze.mk hR; have HB := ze.mk hb; have GB := ze.mk gb; clear hR hb hg hnw gb gl cl hG)
 have hnt : ((n.toNat : Nat) : Int) = n := by omega
 clear hn0
 go_loopw [13] (fun x wr => ∃ j : Nat, j ≤ n.toNat ∧ x = .int .i64 (j : Int) ∧ Kd.R (Kd.int .u64) 34 wr w.heap.size (fun _ => True) (.slice (some ⟨g, 0, none⟩) n.toNat cap) (V.reads S i j ++ List.replicate (n.toNat - j) 0) ∧ Below w.heap.size w wr) (fun x _ => n.toNat - (intOf x).toNat)
 case atStart => exact ⟨0, by omega, rfl, by simpa [VS.reads] using HR.o, HB.o⟩
 case round =>
  obtain ⟨j, hj, rfl, hr, hb⟩ := hrel
  have RR := ze.mk hr
  have BB := ze.mk hb
  clear hr hb
  by_cases hlt : j < n.toNat
  ·have V1 := ze.mk (HV.o.below BB.o)
   have M1 := ze.mk (HM.o.below BB.o)
   have hi0 := HI.o
   have hn4 := HN.o
   have hij : IntKind.i64.wrap (i + (j : Int)) = i + (j : Int) := by simp [IntKind.wrap, IntKind.signed, IntKind.bits]; omega
   obtain ⟨x, hx⟩ : ∃ x, V.read S (i + (j : Int)) = x := ⟨_, rfl⟩
   have HX := ze.mk hx
   have HJ := ze.mk (show oki (i + (j : Int)) by unfold oki; omega)
   have HL := ze.mk hlt
   obtain ⟨hc2, hf2⟩ := Kd.zY 0 RR.o (j : Int) (by omega) (by omega)
   rw [Int.toNat_natCast] at hc2 hf2
   clear hx hi0 hn4
   go_wp2_with (first
    | (go_at_call 11; refine (Read_as V1.o M1.o _ (by first | exact HJ.o | (rw [hij]; exact HJ.o)) x (by first | exact HX.o | (rw [hij]; exact HX.o))).mono ?_; rintro e w2 ⟨rfl, rfl⟩))
   have HP := Kd.Zn RR.o (j : Int) x
   rw [Int.toNat_natCast] at HP
   obtain ⟨w3, hw3⟩ : ∃ w3, w3 = wr.setCell ⟨g, j, none⟩ (.int .u64 x) := ⟨_, rfl⟩
   have hst := V.reads_step S i n.toNat j HL.o
   rw [HX.o] at hst
   rw [hst] at HP
   have R3 := ze.mk HP.1
   have B3 := ze.mk (show Below w.heap.size w (wr.setCell ⟨g, j, none⟩ (.int .u64 x)) from BB.o.setCell GB.o _)
   go_roundw
   case rel => exact ⟨j + 1, by omega, by go_num, R3.o, B3.o⟩
   case measure => simp [intOf]; omega
  ·obtain rfl : j = n.toNat := by omega
   clear hlt hj
   go_wp2
   go_ret
   refine ⟨_, rfl, ?_, BB.o⟩
   have := RR.o
   rw [Nat.sub_self, List.replicate_zero, List.append_nil] at this
   exact this
end Go.Proofs.YtkbhilhefnahpaaGreat.Vw
namespace Go.Proofs.YtkbhilhefnahpaaGreat.Vw
open Go Go.RowKit Go.Proofs.YtkbhilhefnahpaaGreat.ML Go.Proofs.YtkbhilhefnahpaaGreat.Mem Go.Proofs.YtkbhilhefnahpaaGreat.Print Go.Proofs.YtkbhilhefnahpaaGreatW.PrintWords Go.Proofs.YtkbhilhefnahpaaGreatW.PrintLast Go.Proofs.YtkbhilhefnahpaaGreatW.PrintMore
set_option linter.unusedVariables false
set_option linter.unusedSimpArgs false
/-- Words of a block, filled up. -/
def padB (l : List Int) : List Int := cpy (List.replicate 16 0) 0 l
theorem padB_eq (l : List Int) (h : l.length ≤ 16) : padB l = l ++ List.replicate (16 - l.length) 0 := by
 unfold padB cpy
 rw [List.take_zero, List.nil_append, List.length_replicate, List.take_of_length_le (by omega), List.drop_replicate, Nat.zero_add]
theorem padB_len (l : List Int) (h : l.length ≤ 16) : (padB l).length = 16 := by
 rw [padB_eq l h]; simp; omega
theorem padB_ok (l : List Int) (h : l.length ≤ 16) (hw : ∀ v ∈ l, okw v) : ∀ v ∈ padB l, okw v := by
 rw [padB_eq l h]
 intro v hv
 rcases List.mem_append.1 hv with hv | hv
 ·exact hw v hv
 ·rw [List.eq_of_mem_replicate hv]; unfold okw; omega
theorem write_as {w : World} {q : Vp} {f : Fp} {V : VS} (h : zR w q f V) {A : Option Addr} {c : Nat} {l : List Int} (i : Int) (n : Nat) (hn : l.length = n) (hr : Kd.C (Kd.int .u64) w A n l) (h0 : 0 ≤ i) (h1 : i + n ≤ 2824) (hw : ∀ v ∈ l, okw v) :
  Calls Tryz.prog 55 #[vptr q, .int .i64 i, .slice A n c] w fun e w' => e = .returned (.tuple #[]) ∧ zR w' q f (V.puts i l) ∧ Turn [q.bo] w w' := by
 subst hn
 exact write_calls h i hr h0 h1 hw
theorem YP {e : TypeId} {w : World} {base : Nat} {ok : Nat → Prop} {A : Option Addr} {n cap : Nat} {xs : List Int} (h : Kd.R (Kd.int .u64) e w base ok (.slice A n cap) xs) : Kd.C (Kd.int .u64) w A xs.length xs ∧ xs.length ≤ cap := by
 obtain ⟨A', cap', hv, hc, hC⟩ := Kd.R_reads h
 injection hv with e1 e2 e3
 subst e1 e3
 exact ⟨hC, hc⟩
set_option maxHeartbeats 2000000 in
set_option maxRecDepth 100000 in
theorem ZH {w : World} {q : Vp} {f : Fp} {V : VS} (h : zR w q f V) {A : Option Addr} {c : Nat} {l : List Int} (i : Int) (hr : Kd.C (Kd.int .u64) w A l.length l) (h0 : 0 ≤ i ∧ i < 96) (h1 : l.length ≤ 16) (hw : ∀ v ∈ l, okw v) :
  Calls Tryz.prog 31 #[vptr q, .int .i64 i, .slice A l.length c] w fun e w' => e = .returned (.int .i64 0) ∧ zR w' q f (V.puts (1288 + 16 * i) (padB l)) ∧ Turn [q.bo] w w' := by
 have ho := plan_Block.calls 7 i (1288 + 16 * i) 0 w (by rw [PlanF.Block_f, PlanF.Block, if_pos h0])
 have HV := ze.mk h
 have HR := ze.mk hr
 have HP := ze.mk (padB_ok l h1 hw)
 have HI := ze.mk h0
 have HL := ze.mk (padB_len l h1)
 have g1 : decide ((16 : Int) < (l.length : Int)) = false := decide_eq_false (by omega)
 clear hr hw h h0 h1
 go_enter Tryz.func31, Tryz.ntmps31
 go_wp2_with (first
  | (go_at_call 57; refine ho.mono ?_; rintro e w1 ⟨rfl, hb⟩; have V1 := ze.mk (HV.o.below hb); have R1 := ze.mk (Kd.zZ HR.o hb); have B1 := ze.mk hb; clear hb)
  | ((with_reducible refine zD (N := 26) rfl ?_); refine Kd.YX (Kd.int .u64) _ 34 rfl (N := 26) rfl 24 _ _ rfl 16 rfl rfl Tryz.underlying24 (.int .u64 0) 8 YW rfl (by decide) (by omega) 0 (ok := fun _ => True) (okp := fun _ => True) rfl (fun _ hk => hk) trivial (by omega) (by omega) (Below.refl _ _) (Nat.le_refl _) ?_; intro v0 w2 hR hb hg hnw; have O2 := ze.mk hR; have B2 := ze.mk hb; have V2 := ze.mk (V1.o.below hb); have R2 := ze.mk (Kd.zZ R1.o hb); clear hR hb hg hnw)
  | ((with_reducible refine yo (b := .copy) (xs := #[.tmp 27, .tmp 28]) rfl ?_); refine kd_copy (enc := Value.int .u64) (h1 := fun _ => rfl) (w0 := w1) w1.heap.size rfl (.tmp 27) (.tmp 28) 24 24 34 rfl Tryz.underlying24 (by kernel_rfl) v0 (List.replicate 16 0) l _ _ _ (fun _ => True) rfl rfl O2.o R2.o B2.o B2.o.size ?_; intro w3 hR hb hg; have V3 := ze.mk (V1.o.below hb); have B3 := ze.mk hb; obtain ⟨g, cap, e0, gb, gl, cl, hG⟩ := Kd.Yh hR (by have := HL.o; unfold padB at this; omega); have hlen := HL.o; unfold padB at hlen; rw [hlen] at e0; subst e0; have C3 := ze.mk (show Kd.C (Kd.int .u64) w3 (some ⟨g, 0, none⟩) 16 (padB l) from by have h_ := (YP hR).1; rw [hlen] at h_; exact h_); clear hR hb hg gb gl cl hG hlen)
  | (go_at_call 55; refine (write_as V3.o (l := padB l) (1288 + 16 * i) 16 HL.o C3.o (by have := HI.o; omega) (by have := HI.o; omega) HP.o).mono ?_; rintro e w4 ⟨rfl, r1, r2⟩; have R4 := ze.mk r1; have T4 := ze.mk r2; clear r1 r2))
 go_ret
 exact ⟨rfl, R4.o, (Turn.of_below (B1.o.trans (B3.o.mono B1.o.size)) _).trans T4.o⟩
/-- A card that was read. -/
def VS.see (V : VS) (i : Int) : VS := { V with seen := ML.put V.seen i true }
def VS.own' (V : VS) (i : Int) : VS := { V with mine := ML.put V.mine i true }
theorem zR.turnSeen {w w' : World} {q : Vp} {f : Fp} {V : VS} (h : zR w q f V) {i : Int} (h0 : 0 ≤ i) (h1 : i < 24) (t : Turn [q.bs] w w') (hm : IsM ekb 3 w' q.bs (ML.put V.seen i true)) : zR w' q f (V.see i) ∧ Turn [q.bs] w w' := by
 have hp : q.p ≠ q.bs := h.seen.Zi h.cells
 have kb : ∀ b, b < w.heap.size → b ≠ q.bs → w'.heap[b]? = w.heap[b]? := fun b hb hn => t.block b hb (by simpa using hn)
 refine ⟨⟨⟨h.ok.own, fun y hy => ?_, h.ok.mine⟩, (kb _ (h.lts _ (by simp [Vp.list])) hp).trans h.cells, h.own.block (kb _ h.own.lt h.os), hm, h.mine.block (kb _ h.mine.lt h.sm.symm),
  h.away.block fun b hb => kb b (h.away.lt b hb) (h.apart b (List.mem_append.2 (.inl hb))).2.1, h.awayN.block fun b hb => kb b (h.awayN.lt b hb) (h.apart b (List.mem_append.2 (.inr hb))).2.1, h.os, h.om, h.sm, h.apart⟩, t⟩
 rcases mem_ins.1 hy with rfl | hy
 ·exact ⟨h0, h1⟩
 ·exact h.ok.seen y (List.mem_filter.1 hy).1
theorem zR.turnMine {w w' : World} {q : Vp} {f : Fp} {V : VS} (h : zR w q f V) {i : Int} (h0 : 0 ≤ i) (h1 : i < 24) (t : Turn [q.bm] w w') (hm : IsM ekb 3 w' q.bm (ML.put V.mine i true)) : zR w' q f (V.own' i) ∧ Turn [q.bm] w w' := by
 have hp : q.p ≠ q.bm := h.mine.Zi h.cells
 have kb : ∀ b, b < w.heap.size → b ≠ q.bm → w'.heap[b]? = w.heap[b]? := fun b hb hn => t.block b hb (by simpa using hn)
 refine ⟨⟨⟨h.ok.own, h.ok.seen, fun y hy => ?_⟩, (kb _ (h.lts _ (by simp [Vp.list])) hp).trans h.cells, h.own.block (kb _ h.own.lt h.om), h.seen.block (kb _ h.seen.lt h.sm), hm,
  h.away.block fun b hb => kb b (h.away.lt b hb) (h.apart b (List.mem_append.2 (.inl hb))).2.2, h.awayN.block fun b hb => kb b (h.awayN.lt b hb) (h.apart b (List.mem_append.2 (.inr hb))).2.2, h.os, h.om, h.sm, h.apart⟩, t⟩
 rcases mem_ins.1 hy with rfl | hy
 ·exact ⟨h0, h1⟩
 ·exact h.ok.mine y (List.mem_filter.1 hy).1
theorem seen_len {w : World} {q : Vp} {f : Fp} {V : VS} (h : zR w q f V) : V.seen.length ≤ 24 :=
 length_le (n := 24) (lo := 0) (IsM.sorted nt h.seen) fun x hx => ⟨(h.ok.seen x hx).1, by have := (h.ok.seen x hx).2; omega⟩
theorem mine_len {w : World} {q : Vp} {f : Fp} {V : VS} (h : zR w q f V) : V.mine.length ≤ 24 :=
 length_le (n := 24) (lo := 0) (IsM.sorted nt h.mine) fun x hx => ⟨(h.ok.mine x hx).1, by have := (h.ok.mine x hx).2; omega⟩
/-- A card, as it stands in memory. -/
structure Crd where
 k : Int
 l : Int
 s : Int
 v : Int
 d0 : Int
 d1 : Int
 d2 : Int
 d3 : Int
 d4 : Int
 m : Int
def Crd.cells (c : Crd) : List Value := [.int .i64 c.k, .int .i64 c.l, .int .i64 c.s, .int .u64 c.v, .int .i64 c.d0, .int .i64 c.d1, .int .i64 c.d2, .int .i64 c.d3, .int .i64 c.d4, .int .i64 c.m]
abbrev Crd.val (c : Crd) : Value := .agg #[.int .i64 c.k, .int .i64 c.l, .int .i64 c.s, .int .u64 c.v, .int .i64 c.d0, .int .i64 c.d1, .int .i64 c.d2, .int .i64 c.d3, .int .i64 c.d4, .int .i64 c.m]
def Zo : Crd := ⟨0, 0, 0, 0, 0, 0, 0, 0, 0, 0⟩
/-- A whole card is stored. -/
theorem ZA {W : World} {g : Nat} {cur : Array Value} (hb : W.heap[g]? = some (.cells cur 37 (0, 0))) (hs : cur.size = 10) (c : Crd) :
  ∃ W', (Instr.storeAt 37 (.pointer (some ⟨g, 0, none⟩)) c.val).run Tryz.prog W = .ok () W' ∧ W'.heap[g]? = some (.cells c.cells.toArray 37 (0, 0)) ∧ Turn [g] W W' := by
 refine ⟨_, zP (P := Tryz.prog) (o := 0) (cur := cur) 37 c.val c.cells hb rfl (by kernel_rfl) (by rw [hs]; simp [Crd.cells]) (fun q hq => by simp [Crd.cells] at hq; rcases hq with rfl | rfl | rfl | rfl | rfl | rfl | rfl | rfl | rfl | rfl <;> rfl), ?_, ?_⟩
 ·obtain ⟨cur', h1, h2, h3⟩ := yV c.cells 0 W cur hb (by rw [hs]; simp [Crd.cells])
  rw [h1]
  have : cur' = c.cells.toArray := by
   apply Array.ext'
   rw [h3, List.take_zero, List.nil_append, List.drop_of_length_le (by rw [Array.length_toList, hs]; simp [Crd.cells]), List.append_nil]
  rw [this]
 ·obtain ⟨h1, h2, h3, h4⟩ := yN g c.cells 0 W
  exact ⟨h1, h2, h3, by rw [h4]; exact Nat.le_refl _, fun k hk hn => yJ _ _ _ (by simpa using hn)⟩
end Go.Proofs.YtkbhilhefnahpaaGreat.Vw
namespace Go.Proofs.YtkbhilhefnahpaaGreat.Vw
open Go Go.RowKit Go.Proofs.YtkbhilhefnahpaaGreat.ML Go.Proofs.YtkbhilhefnahpaaGreat.Mem Go.Proofs.YtkbhilhefnahpaaGreat.Print Go.Proofs.YtkbhilhefnahpaaGreatW.PrintWords Go.Proofs.YtkbhilhefnahpaaGreatW.PrintLast Go.Proofs.YtkbhilhefnahpaaGreatW.PrintMore
set_option linter.unusedVariables false
set_option linter.unusedSimpArgs false
theorem cRead_as {w : World} {A : Option Addr} {cap : Nat} {l : List Int} {k : Nat} {c : Crd} {e : Int} (n : Nat) (hn : l.length = n) (hr : Kd.C (Kd.int .u64) w A n l) (hc : n ≤ cap) (hf : cards_Read.f k l = some (c.k, c.l, c.s, c.v, c.d0, c.d1, c.d2, c.d3, c.d4, c.m, e)) :
  Calls Tryz.prog 51 #[.slice A n cap] w fun e' w' => e' = .returned (.tuple #[c.val, .int .i64 e]) ∧ Below w.heap.size w w' := by
 subst hn
 exact cards_Read.calls k A cap l _ _ _ _ _ _ _ _ _ _ _ w hr hc hf
set_option maxHeartbeats 2000000 in
set_option maxRecDepth 100000 in
theorem YU {w : World} {q : Vp} {f : Fp} {V : VS} {S : MS} (h : zR w q f V) (hm : IsMem w f S) (i : Int) (hi : 0 ≤ i ∧ i < 24) (k : Nat) (c : Crd) (e : Int) (hf : cards_Read.f k (V.reads S (8 + 8 * i) 8) = some (c.k, c.l, c.s, c.v, c.d0, c.d1, c.d2, c.d3, c.d4, c.m, e)) (hqf : ∀ b ∈ f.list, b ≠ q.bs) :
  Calls Tryz.prog 24 #[vptr q, .int .i64 i] w fun e' w' => e' = .returned (.tuple #[c.val, .int .i64 e]) ∧ zR w' q f (V.see i) ∧ Turn [q.bs] w w' := by
 have ho := fun w => plan_Card.calls 7 i (8 + 8 * i) 0 w (by rw [PlanF.Card_f, PlanF.Card, if_pos hi])
 have hu := Tryz.underlying37
 have HV := ze.mk h
 have HM := ze.mk hm
 have HI := ze.mk hi
 have HF := ze.mk hf
 have HQ := ze.mk hqf
 have HO := ze.mk ho
 clear h hm hi hf hqf ho
 go_enter Tryz.func24, Tryz.ntmps24
 go_wp2_with (first
  | ((with_reducible refine zD (N := 4) rfl ?_); refine zC ?hg (N := 4) ?hd (cs := Zo.cells.toArray) (t := 37) ?hr ?_; (case hd => rfl); (case hg => rfl); (case hr => first | (go_simp; done) | (go_simp; rfl)); intro g hg w1 hbox hb; have V1 := ze.mk (HV.o.below hb); have M1 := ze.mk (HM.o.below hb); have X1 := ze.mk hbox; have G1 := ze.mk hg; have T1 := ze.mk (Turn.of_below hb [q.bs]); clear hb hbox hg)
  | (go_at_call 50; refine (HO.o _).mono ?_; rintro e w2 ⟨rfl, hb⟩; have V2 := ze.mk (V1.o.below hb); have M2 := ze.mk (M1.o.below hb); have X2 := ze.mk (zK X1.o hb); have T2 := ze.mk (T1.o.trans (Turn.of_below hb _)); have c2 := V2.o.facts.c2; clear hb)
  | (at_mapUpdate; refine wp_put (x := ekb) nt rfl _ _ _ rfl rfl V2.o.seen (by have := seen_len V2.o; omega) i true rfl rfl (YF (by have := HI.o; unfold oki; omega)) trivial ?_; intro w3 hm3 ht3; obtain ⟨r1, r2⟩ := V2.o.turnSeen HI.o.1 HI.o.2 (Turn.Zt (ZB ht3)) hm3; have M3 := ze.mk (M2.o.kept r2 (fun b hb => by have := HQ.o b hb; simpa using this)); have X3 := ze.mk ((r2.block g (Array.getElem?_eq_some_iff.1 X2.o).1 (by have h1 := HV.o.seen.lt; have h2 := G1.o; simp; omega)).trans X2.o); have V3 := ze.mk r1; have T3 := ze.mk (T2.o.trans r2); clear r1 r2 hm3 ht3)
  | (go_at_call 52; refine (read_calls V3.o M3.o (8 + 8 * i) 8 (by have := HI.o; omega) (by omega) (by have := HI.o; omega)).mono ?_; rintro e w4 ⟨v, rfl, hR, hb⟩; obtain ⟨A, cap, hv⟩ := Kd.yc hR; rw [VS.Zh] at hv; subst hv; have C4 := ze.mk (YP hR); have V4 := ze.mk (V3.o.below hb); have X4 := ze.mk (zK X3.o hb); have T4 := ze.mk (T3.o.trans (Turn.of_below hb _)); clear hR hb)
  | (go_at_call 51; refine (cRead_as 8 (VS.Zh _ _ _ _) (by have h_ := C4.o.1; rw [VS.Zh] at h_; exact h_) (by have h_ := C4.o.2; rw [VS.Zh] at h_; exact h_) HF.o).mono ?_; rintro e w5 ⟨rfl, hb⟩; have V5 := ze.mk (V4.o.below hb); have X5 := ze.mk (zK X4.o hb); have T5 := ze.mk (T4.o.trans (Turn.of_below hb _)); clear hb)
  | ((with_reducible refine zJ (t := 37) (p := 4) rfl ?_); obtain ⟨w6, hs, hb6, t6⟩ := ZA X5.o rfl c; refine zH (t := 37) (p := 4) (w1 := w6) rfl rfl rfl (zM rfl rfl rfl hs) ?_; intro w7 hw7; rw [← hw7] at hb6 t6; have X6 := ze.mk hb6; have V6 := ze.mk (V5.o.kept t6 (fun b hb => by have h1 := HV.o.lts b hb; have h2 := G1.o; simp; omega)); have T6 := ze.mk (show Turn [q.bs] w w7 from ((T5.o.mono (L' := [q.bs, g]) (fun x hx => .inl (by simp at hx; simp [hx]))).trans (t6.mono (L' := [q.bs, g]) (fun x hx => .inl (by simp at hx; simp [hx])))).mono (fun x hx => by have h2 := G1.o; simp at hx ⊢; omega)); clear hs hb6 t6 hw7))
 refine bodyPost_ret (yE rfl _ _ g 37 c.cells.toArray (0, 0) _ rfl X6.o hu rfl (by kernel_rfl)) rfl ?_
 exact ⟨rfl, V6.o, T6.o⟩
end Go.Proofs.YtkbhilhefnahpaaGreat.Vw
namespace Go.Proofs.YtkbhilhefnahpaaGreat.Reg
open Go
section
variable {P : Program} {ops : Array Oper} {Inv : World → Prop} {ev : Nat → Bool} {Q : Act → World → Prop}
theorem S_ev {i : Nat} {r : List Oper} {a : Act} {w w' : World} {o : Oper} {v : Value} (he : ev i = true) (hw : Region.wanted o (yielded ops a.tmps) = true) (hx : (execOp a.eval o).run P w = .ok (.value v) w') (hi : Inv w')
  (h : wpS P ops Inv ev Q r (i + 1) (a.put o.dst v) w') : wpS P ops Inv ev Q (o :: r) i a w := by
 unfold wpS
 rw [if_pos he]
 unfold opE
 rw [if_pos hw]
 unfold Oper.wp
 rw [hx]
 exact ⟨hi, hi, h⟩
theorem S_ev0 {i : Nat} {r : List Oper} {a : Act} {w w' : World} {o : Oper} (he : ev i = true) (hw : Region.wanted o (yielded ops a.tmps) = true) (hx : (execOp a.eval o).run P w = .ok .skip w') (hi : Inv w')
  (h : wpS P ops Inv ev Q r (i + 1) (a.put o.dst undef) w') : wpS P ops Inv ev Q (o :: r) i a w := by
 unfold wpS
 rw [if_pos he]
 unfold opE
 rw [if_pos hw]
 unfold Oper.wp
 rw [hx]
 exact ⟨hi, hi, h⟩
theorem entry_exec {t : TypeId} {a : Act} {w w' : World} {o : Oper} {mo xo : Operand} {m key v : Value} (ho : o.op = .mapEntry t mo xo) (hm : a.eval mo = m) (hk : a.eval xo = key) (hr : (Instr.mapEntry t m key).run P w = .ok v w') : (execOp a.eval o).run P w = .ok (.value v) w' := by
 unfold execOp
 simp only [ho, hm, hk]
 simp [hr]
theorem store_exec' {t : TypeId} {a : Act} {w w' : World} {o : Oper} {mo so xo : Operand} {m s v : Value} (ho : o.op = .entryStore t mo so xo) (hm : a.eval mo = m) (hs : a.eval so = s) (hv : a.eval xo = v) (hr : (Instr.entryStore t m s v).run P w = .ok () w') : (execOp a.eval o).run P w = .ok .skip w' := by
 unfold execOp
 simp only [ho, hm, hs, hv]
 simp [hr]
end
end Go.Proofs.YtkbhilhefnahpaaGreat.Reg
namespace Go.Proofs.YtkbhilhefnahpaaGreat.Vw
open Go Go.RowKit Go.Proofs.YtkbhilhefnahpaaGreat.ML Go.Proofs.YtkbhilhefnahpaaGreat.Mem Go.Proofs.YtkbhilhefnahpaaGreat.Reg Go.Proofs.YtkbhilhefnahpaaGreat.Print Go.Proofs.YtkbhilhefnahpaaGreatW.PrintWords Go.Proofs.YtkbhilhefnahpaaGreatW.PrintLast Go.Proofs.YtkbhilhefnahpaaGreatW.PrintMore
set_option linter.unusedVariables false
set_option linter.unusedSimpArgs false
theorem cWrite_as {w : World} {k : Nat} {c : Crd} {l : List Int} {e : Int} (hf : cards_Write.f k c.k c.l c.s c.v c.d0 c.d1 c.d2 c.d3 c.d4 c.m = some (l, e)) :
  Calls Tryz.prog 54 #[c.val] w fun e' w' => ∃ v0_ : Value, e' = .returned (.tuple #[v0_, .int .i64 e]) ∧ Kd.R (Kd.int .u64) 34 w' w.heap.size (fun _ => True) v0_ l ∧ Below w.heap.size w w' :=
 cards_Write.calls k c.k c.l c.s c.v c.d0 c.d1 c.d2 c.d3 c.d4 c.m l e w hf
def VS.set (V : VS) (i : Int) (l : List Int) : VS := ((V.see i).own' i).puts (8 + 8 * i) l
set_option maxHeartbeats 2000000 in
set_option maxRecDepth 100000 in
theorem Set_calls {w : World} {q : Vp} {f : Fp} {V : VS} (h : zR w q f V) (i : Int) (hi : 0 ≤ i ∧ i < 24) (k : Nat) (c : Crd) (l : List Int) (hf : cards_Write.f k c.k c.l c.s c.v c.d0 c.d1 c.d2 c.d3 c.d4 c.m = some (l, 0)) (hl : l.length = 8) (hw : ∀ v ∈ l, okw v) :
  Calls Tryz.prog 26 #[vptr q, .int .i64 i, c.val] w fun e' w' => e' = .returned (.int .i64 0) ∧ zR w' q f (V.set i l) ∧ Turn [q.bo, q.bs, q.bm] w w' := by
 have ho := fun w => plan_Card.calls 7 i (8 + 8 * i) 0 w (by rw [PlanF.Card_f, PlanF.Card, if_pos hi])
 have hu := Tryz.underlying37
 have HV := ze.mk h
 have HI := ze.mk hi
 have HF := ze.mk hf
 have HL := ze.mk hl
 have HW := ze.mk hw
 have HO := ze.mk ho
 clear h hi hf ho hl hw
 go_enter Tryz.func26, Tryz.ntmps26
 go_wp2_with (first
  | ((with_reducible refine zD (N := 5) rfl ?_); refine zC ?hg (N := 5) ?hd (cs := c.cells.toArray) (t := 37) ?hr ?_; (case hd => rfl); (case hg => rfl); (case hr => first | (go_simp; done) | (go_simp; rfl)); intro g hg w1 hbox hb; have V1 := ze.mk (HV.o.below hb); have X1 := ze.mk hbox; have B1 := ze.mk hb; clear hb hbox hg)
  | (go_at_call 50; refine (HO.o _).mono ?_; rintro e w2 ⟨rfl, hb⟩; have V2 := ze.mk (V1.o.below hb); have X2 := ze.mk (zK X1.o hb); have B2 := ze.mk (B1.o.trans (hb.mono B1.o.size)); clear hb; have x0 := cell_of X2.o (o := 0) rfl; have x1 := cell_of X2.o (o := 1) rfl; have x2 := cell_of X2.o (o := 2) rfl; have x3 := cell_of X2.o (o := 3) rfl; have x4 := cell_of X2.o (o := 4) rfl; have x5 := cell_of X2.o (o := 5) rfl; have x6 := cell_of X2.o (o := 6) rfl; have x7 := cell_of X2.o (o := 7) rfl; have x8 := cell_of X2.o (o := 8) rfl; have x9 := cell_of X2.o (o := 9) rfl)
  | (go_at_call 54; refine (cWrite_as HF.o).mono ?_; rintro e w3 ⟨v0, rfl, hR, hb⟩; obtain ⟨A, cap, hv⟩ := Kd.yc hR; rw [HL.o] at hv; subst hv; have C3 := ze.mk (show Kd.C (Kd.int .u64) w3 A 8 l from by have h_ := (YP hR).1; rw [HL.o] at h_; exact h_); have V3 := ze.mk (V2.o.below hb); have B3 := ze.mk (B2.o.trans (hb.mono B2.o.size)); clear hR hb))
 refine yj (fun W => W.cell? ⟨q.p, 2, none⟩ = some (.map (some q.bs)) ∧ W.cell? ⟨q.p, 3, none⟩ = some (.map (some q.bm))) (fun i => [10, 12, 13, 15].contains i) (by kernel_rfl) (by kernel_rfl) ⟨V3.o.facts.c2, V3.o.facts.c3⟩ ?_
 have V4 := ze.mk (V3.o.kept (Turn.drew w3 []) (by simp))
 have C4 := ze.mk (C_turn C3.o (Turn.drew w3 []) (by simp))
 have T4 := ze.mk ((Turn.of_below B3.o [q.bo, q.bs, q.bm]).trans (Turn.drew w3 _))
 have hk : (Lit.int .i64 i).wf = true := YF (by have := HI.o; unfold oki; omega)
 clear C3 V3 B3 X1 X2 B1 B2 x0 x1 x2 x3 x4 x5 x6 x7 x8 x9 V1 V2
 generalize w3.drew = w4 at V4 C4 T4 ⊢
 (apply S_val rfl; (first | exact zG rfl | exact zI rfl rfl (by kernel_rfl)); (intro W hW R hR; have i2 := hW.1; have i3 := hW.2; go_simp; exact hR)); go_frame
 (apply S_val rfl; (first | exact zG rfl | exact zI rfl rfl (by kernel_rfl)); (intro W hW R hR; have i2 := hW.1; have i3 := hW.2; go_simp; exact hR)); go_frame
 (apply S_val rfl; (first | exact zG rfl | exact zI rfl rfl (by kernel_rfl)); (intro W hW R hR; have i2 := hW.1; have i3 := hW.2; go_simp; exact hR)); go_frame
 (apply S_val rfl; (first | exact zG rfl | exact zI rfl rfl (by kernel_rfl)); (intro W hW R hR; have i2 := hW.1; have i3 := hW.2; go_simp; exact hR)); go_frame
 (apply S_val rfl; (first | exact zG rfl | exact zI rfl rfl (by kernel_rfl)); (intro W hW R hR; have i2 := hW.1; have i3 := hW.2; go_simp; exact hR)); go_frame
 (apply S_val rfl; (first | exact zG rfl | exact zI rfl rfl (by kernel_rfl)); (intro W hW R hR; have i2 := hW.1; have i3 := hW.2; go_simp; exact hR)); go_frame
 (apply S_val rfl; (first | exact zG rfl | exact zI rfl rfl (by kernel_rfl)); (intro W hW R hR; have i2 := hW.1; have i3 := hW.2; go_simp; exact hR)); go_frame
 (apply S_val rfl; (first | exact zG rfl | exact zI rfl rfl (by kernel_rfl)); (intro W hW R hR; have i2 := hW.1; have i3 := hW.2; go_simp; exact hR)); go_frame
 (apply S_val rfl; (first | exact zG rfl | exact zI rfl rfl (by kernel_rfl)); (intro W hW R hR; have i2 := hW.1; have i3 := hW.2; go_simp; exact hR)); go_frame
 (apply S_val rfl; (first | exact zG rfl | exact zI rfl rfl (by kernel_rfl)); (intro W hW R hR; have i2 := hW.1; have i3 := hW.2; go_simp; exact hR)); go_frame
 obtain ⟨u0, st, wa, h1, t1, hst⟩ := V4.o.seen.entry nt (by have := seen_len V4.o; omega) i true hk trivial
 have ta := Turn.Zt (ZB t1)
 refine S_ev rfl (by first | exact zG rfl | exact zI rfl rfl (by kernel_rfl)) (entry_exec rfl rfl rfl h1) ⟨ZZ ta V4.o.facts.c2 (ZM V4.o.seen), ZZ ta V4.o.facts.c3 (ZM V4.o.seen)⟩ ?_
 go_frame
 (apply S_val rfl; (first | exact zG rfl | exact zI rfl rfl (by kernel_rfl)); (intro W hW R hR; have i2 := hW.1; have i3 := hW.2; go_simp; exact hR)); go_frame
 obtain ⟨wb, h2, m2, t2⟩ := hst wa rfl
 obtain ⟨r1, r2⟩ := V4.o.turnSeen HI.o.1 HI.o.2 (ta.trans (Turn.Zt (ZB t2))) m2
 have V5 := ze.mk r1
 have C5 := ze.mk (C_turn C4.o r2 (ZM V4.o.seen))
 have T5 := ze.mk (T4.o.trans (r2.mono (L' := [q.bo, q.bs, q.bm]) (fun x hx => .inl (by simp at hx; simp [hx]))))
 refine S_ev0 rfl (by first | exact zG rfl | exact zI rfl rfl (by kernel_rfl)) (store_exec' rfl rfl rfl rfl h2) ⟨V5.o.facts.c2, V5.o.facts.c3⟩ ?_
 clear r1 r2 h1 h2 t1 t2 hst m2 ta V4 C4 T4
 go_frame
 obtain ⟨u1, st1, wc, h1, t1, hst⟩ := V5.o.mine.entry nt (by have := mine_len V5.o; omega) i true hk trivial
 have ta := Turn.Zt (ZB t1)
 refine S_ev rfl (by first | exact zG rfl | exact zI rfl rfl (by kernel_rfl)) (entry_exec rfl rfl rfl h1) ⟨ZZ ta V5.o.facts.c2 (ZM V5.o.mine), ZZ ta V5.o.facts.c3 (ZM V5.o.mine)⟩ ?_
 go_frame
 (apply S_val rfl; (first | exact zG rfl | exact zI rfl rfl (by kernel_rfl)); (intro W hW R hR; have i2 := hW.1; have i3 := hW.2; go_simp; exact hR)); go_frame
 obtain ⟨wd, h2, m2, t2⟩ := hst wc rfl
 obtain ⟨r1, r2⟩ := V5.o.turnMine HI.o.1 HI.o.2 (ta.trans (Turn.Zt (ZB t2))) m2
 have V6 := ze.mk r1
 have C6 := ze.mk (C_turn C5.o r2 (ZM V5.o.mine))
 have T6 := ze.mk (T5.o.trans (r2.mono (L' := [q.bo, q.bs, q.bm]) (fun x hx => .inl (by simp at hx; simp [hx]))))
 refine S_ev0 rfl (by first | exact zG rfl | exact zI rfl rfl (by kernel_rfl)) (store_exec' rfl rfl rfl rfl h2) ⟨V6.o.facts.c2, V6.o.facts.c3⟩ ?_
 clear r1 r2 h1 h2 t1 t2 hst m2 ta V5 C5 T5
 go_frame
 apply S_nil
 go_wp2_with (go_at_call 55; refine (write_as V6.o (8 + 8 * i) 8 HL.o C6.o (by have := HI.o; omega) (by have := HI.o; omega) HW.o).mono ?_; rintro e w7 ⟨rfl, r1, r2⟩; have V7 := ze.mk r1; have T7 := ze.mk (T6.o.trans (r2.mono (L' := [q.bo, q.bs, q.bm]) (fun x hx => .inl (by simp at hx; simp [hx])))); clear r1 r2)
 go_ret
 exact ⟨rfl, V7.o, T7.o⟩
end Go.Proofs.YtkbhilhefnahpaaGreat.Vw
namespace Go.Proofs.YtkbhilhefnahpaaGreat.Vw
open Go Go.RowKit Go.Proofs.YtkbhilhefnahpaaGreat.ML Go.Proofs.YtkbhilhefnahpaaGreat.Mem Go.Proofs.YtkbhilhefnahpaaGreat.Print Go.Proofs.YtkbhilhefnahpaaGreatW.PrintWords Go.Proofs.YtkbhilhefnahpaaGreatW.PrintLast Go.Proofs.YtkbhilhefnahpaaGreatW.PrintMore
set_option linter.unusedVariables false
set_option linter.unusedSimpArgs false
/-- All that a view has of its own stands at an open place. -/
def Opn (V : VS) : Prop := ∀ y ∈ V.own, PlanF.openB y.1 = true
theorem openB_iff (a : Int) : PlanF.openB a = true ↔ (8 ≤ a ∧ a < 296 ∨ 1288 ≤ a ∧ a < 2824) := by unfold PlanF.openB; exact decide_eq_true_iff
theorem Opn.put {V : VS} (h : Opn V) {i v : Int} (hi : PlanF.openB i = true) : Opn (V.put i v) := by
 intro y hy
 rcases mem_ins.1 hy with rfl | hy
 ·exact hi
 ·exact h y (List.mem_filter.1 hy).1
theorem opn_putsL (l : List Int) : ∀ (m : List (Int × Int)) (i : Int), (∀ y ∈ m, PlanF.openB y.1 = true) → (∀ j : Int, i ≤ j → j < i + l.length → PlanF.openB j = true) → ∀ y ∈ putsL m i l, PlanF.openB y.1 = true := by
 induction l with
 | nil => intro m i h _; exact h
 | cons x r ih =>
  intro m i h hj
  refine ih (ML.put m i x) (i + 1) ?_ (fun j h0 h1 => hj j (by omega) (by rw [List.length_cons]; omega))
  intro y hy
  rcases mem_ins.1 hy with rfl | hy
  ·exact hj i (by omega) (by rw [List.length_cons]; omega)
  ·exact h y (List.mem_filter.1 hy).1
theorem Opn.puts {V : VS} (h : Opn V) {i : Int} {l : List Int} (hj : ∀ j : Int, i ≤ j → j < i + l.length → PlanF.openB j = true) : Opn (V.puts i l) := opn_putsL l V.own i h hj
theorem Opn.same {V V' : VS} (h : Opn V) (e : V'.own = V.own) : Opn V' := fun y hy => h y (by rw [← e]; exact hy)
set_option maxHeartbeats 2000000 in
theorem Yp {w : World} {q : Vp} {f : Fp} {V : VS} {S : MS} (h : zR w q f V) (hm : IsMem w f S) (i : Int) (h0 : 0 ≤ i ∧ i < 96) : Calls Tryz.prog 28 #[vptr q, .int .i64 i] w fun e w' => ∃ A cap, e = .returned (.tuple #[.slice A 16 cap, .int .i64 0]) ∧ Kd.C (Kd.int .u64) w' A 16 (V.reads S (1288 + 16 * i) 16) ∧ 16 ≤ cap ∧ Below w.heap.size w w' := by
 have ho := plan_Block.calls 7 i (1288 + 16 * i) 0 w (by rw [PlanF.Block_f, PlanF.Block, if_pos h0])
 have HV := ze.mk h
 have HM := ze.mk hm
 have HI := ze.mk h0
 clear h hm h0
 go_enter Tryz.func28, Tryz.ntmps28
 go_wp2_with (first
  | (go_at_call 57; refine ho.mono ?_; rintro e w1 ⟨rfl, hb⟩; have V1 := ze.mk (HV.o.below hb); have M1 := ze.mk (HM.o.below hb); have B1 := ze.mk hb; clear hb)
  | (go_at_call 52; refine (read_calls V1.o M1.o (1288 + 16 * i) 16 (by have := HI.o; omega) (by omega) (by have := HI.o; omega)).mono ?_; rintro e w2 ⟨v, rfl, hR, hb⟩; obtain ⟨A, cap, hv⟩ := Kd.yc hR; rw [VS.Zh] at hv; subst hv; have C2 := ze.mk (YP hR); have B2 := ze.mk (B1.o.trans (hb.mono B1.o.size)); clear hR hb))
 go_returns
 have h1 := C2.o
 rw [VS.Zh] at h1
 exact ⟨A, cap, rfl, h1.1, h1.2, B2.o⟩
set_option maxHeartbeats 2000000 in
theorem Block_out {w : World} {q : Vp} {f : Fp} {V : VS} (h : zR w q f V) (i : Int) (h0 : ¬ (0 ≤ i ∧ i < 96)) : Calls Tryz.prog 28 #[vptr q, .int .i64 i] w fun e w' => e = .returned (.tuple #[.slice none 0 0, .int .i64 1]) ∧ Below w.heap.size w w' := by
 have ho := plan_Block.calls 7 i 0 1 w (by rw [PlanF.Block_f, PlanF.Block, if_neg h0])
 clear h h0
 go_enter Tryz.func28, Tryz.ntmps28
 go_wp2_with (go_at_call 57; refine ho.mono ?_; rintro e w1 ⟨rfl, hb⟩; have B1 := ze.mk hb; clear hb)
 go_returns
 exact ⟨rfl, B1.o⟩
set_option maxHeartbeats 2000000 in
theorem SetBlock_out {w : World} {q : Vp} {f : Fp} {V : VS} (h : zR w q f V) (i : Int) (A : Option Addr) (n c : Nat) (h0 : ¬ (0 ≤ i ∧ i < 96)) : Calls Tryz.prog 31 #[vptr q, .int .i64 i, .slice A n c] w fun e w' => e = .returned (.int .i64 1) ∧ Below w.heap.size w w' := by
 have ho := plan_Block.calls 7 i 0 1 w (by rw [PlanF.Block_f, PlanF.Block, if_neg h0])
 clear h h0
 go_enter Tryz.func31, Tryz.ntmps31
 go_wp2_with (go_at_call 57; refine ho.mono ?_; rintro e w1 ⟨rfl, hb⟩; have B1 := ze.mk hb; clear hb)
 go_ret
 exact ⟨rfl, B1.o⟩
set_option maxHeartbeats 2000000 in
theorem SetBlock_long {w : World} {q : Vp} {f : Fp} {V : VS} (h : zR w q f V) (i : Int) (A : Option Addr) (n c : Nat) (h0 : 0 ≤ i ∧ i < 96) (hn : 16 < n) : Calls Tryz.prog 31 #[vptr q, .int .i64 i, .slice A n c] w fun e w' => e = .returned (.int .i64 1) ∧ Below w.heap.size w w' := by
 have ho := plan_Block.calls 7 i (1288 + 16 * i) 0 w (by rw [PlanF.Block_f, PlanF.Block, if_pos h0])
 have g1 : decide ((16 : Int) < (n : Int)) = true := decide_eq_true (by omega)
 clear h h0 hn
 go_enter Tryz.func31, Tryz.ntmps31
 go_wp2_with (go_at_call 57; refine ho.mono ?_; rintro e w1 ⟨rfl, hb⟩; have B1 := ze.mk hb; clear hb)
 go_ret
 exact ⟨rfl, B1.o⟩
set_option maxHeartbeats 2000000 in
set_option maxRecDepth 100000 in
theorem Card_out {w : World} {q : Vp} {f : Fp} {V : VS} (h : zR w q f V) (i : Int) (h0 : ¬ (0 ≤ i ∧ i < 24)) : Calls Tryz.prog 24 #[vptr q, .int .i64 i] w fun e' w' => e' = .returned (.tuple #[Zo.val, .int .i64 1]) ∧ Below w.heap.size w w' := by
 have HO := ze.mk (fun w => plan_Card.calls 7 i 0 1 w (by rw [PlanF.Card_f, PlanF.Card, if_neg h0]))
 have hu := Tryz.underlying37
 clear h h0
 go_enter Tryz.func24, Tryz.ntmps24
 go_wp2_with (first
  | ((with_reducible refine zD (N := 4) rfl ?_); refine zC ?hg (N := 4) ?hd (cs := Zo.cells.toArray) (t := 37) ?hr ?_; (case hd => rfl); (case hg => rfl); (case hr => first | (go_simp; done) | (go_simp; rfl)); intro g hg w1 hbox hb; have X1 := ze.mk hbox; have G1 := ze.mk hg; have B1 := ze.mk hb; clear hb hbox hg)
  | (go_at_call 50; refine (HO.o _).mono ?_; rintro e w2 ⟨rfl, hb⟩; have X2 := ze.mk (zK X1.o hb); have B2 := ze.mk (B1.o.trans (hb.mono B1.o.size)); clear hb)
  | ((with_reducible refine zJ (t := 37) (p := 4) rfl ?_); obtain ⟨w6, hs, hb6, t6⟩ := ZA X2.o rfl Zo; refine zH (t := 37) (p := 4) (w1 := w6) rfl rfl rfl (zM rfl rfl rfl hs) ?_; intro w7 hw7; rw [← hw7] at hb6 t6; have X6 := ze.mk hb6; have B7 := ze.mk (show Below w.heap.size w w7 from B2.o.trans (t6.below B2.o.size (fun x hx => by have h2 := G1.o; simp at hx; omega))); clear hs hb6 t6 hw7))
 refine bodyPost_ret (yE rfl _ _ g 37 Zo.cells.toArray (0, 0) _ rfl X6.o hu rfl (by kernel_rfl)) rfl ?_
 exact ⟨rfl, B7.o⟩
set_option maxHeartbeats 2000000 in
set_option maxRecDepth 100000 in
theorem Set_bad {w : World} {q : Vp} {f : Fp} {V : VS} (h : zR w q f V) (i : Int) (k : Nat) (c : Crd) (l : List Int) (e : Int) (hf : cards_Write.f k c.k c.l c.s c.v c.d0 c.d1 c.d2 c.d3 c.d4 c.m = some (l, e)) (hb : ¬ (0 ≤ i ∧ i < 24) ∨ e ≠ 0) : Calls Tryz.prog 26 #[vptr q, .int .i64 i, c.val] w fun e' w' => e' = .returned (.int .i64 1) ∧ Below w.heap.size w w' := by
 have hu := Tryz.underlying37
 have HF := ze.mk hf
 clear h hf
 by_cases h0 : 0 ≤ i ∧ i < 24
 ·have he : e ≠ 0 := hb.resolve_left (fun h => h h0)
  have HO := ze.mk (fun w => plan_Card.calls 7 i (8 + 8 * i) 0 w (by rw [PlanF.Card_f, PlanF.Card, if_pos h0]))
  have ge : (e = 0) = False := eq_false he
  have ge2 : (e != 0) = true := by simpa using he
  clear h0 hb he
  go_enter Tryz.func26, Tryz.ntmps26
  go_wp2_with (first
   | ((with_reducible refine zD (N := 5) rfl ?_); refine zC ?hg (N := 5) ?hd (cs := c.cells.toArray) (t := 37) ?hr ?_; (case hd => rfl); (case hg => rfl); (case hr => first | (go_simp; done) | (go_simp; rfl)); intro g hg w1 hbox hb; have X1 := ze.mk hbox; have B1 := ze.mk hb; clear hb hbox hg)
   | (go_at_call 50; refine (HO.o _).mono ?_; rintro e w2 ⟨rfl, hb⟩; have X2 := ze.mk (zK X1.o hb); have B2 := ze.mk (B1.o.trans (hb.mono B1.o.size)); clear hb; have x0 := cell_of X2.o (o := 0) rfl; have x1 := cell_of X2.o (o := 1) rfl; have x2 := cell_of X2.o (o := 2) rfl; have x3 := cell_of X2.o (o := 3) rfl; have x4 := cell_of X2.o (o := 4) rfl; have x5 := cell_of X2.o (o := 5) rfl; have x6 := cell_of X2.o (o := 6) rfl; have x7 := cell_of X2.o (o := 7) rfl; have x8 := cell_of X2.o (o := 8) rfl; have x9 := cell_of X2.o (o := 9) rfl)
   | (go_at_call 54; refine (cWrite_as HF.o).mono ?_; rintro e w3 ⟨v0, rfl, _, hb⟩; have B3 := ze.mk (B2.o.trans (hb.mono B2.o.size)); clear hb))
  go_ret
  exact ⟨rfl, B3.o⟩
 ·have HO := ze.mk (fun w => plan_Card.calls 7 i 0 1 w (by rw [PlanF.Card_f, PlanF.Card, if_neg h0]))
  clear h0 hb
  go_enter Tryz.func26, Tryz.ntmps26
  go_wp2_with (first
   | ((with_reducible refine zD (N := 5) rfl ?_); refine zC ?hg (N := 5) ?hd (cs := c.cells.toArray) (t := 37) ?hr ?_; (case hd => rfl); (case hg => rfl); (case hr => first | (go_simp; done) | (go_simp; rfl)); intro g hg w1 hbox hb; have X1 := ze.mk hbox; have B1 := ze.mk hb; clear hb hbox hg)
   | (go_at_call 50; refine (HO.o _).mono ?_; rintro e w2 ⟨rfl, hb⟩; have X2 := ze.mk (zK X1.o hb); have B2 := ze.mk (B1.o.trans (hb.mono B1.o.size)); clear hb; have x0 := cell_of X2.o (o := 0) rfl; have x1 := cell_of X2.o (o := 1) rfl; have x2 := cell_of X2.o (o := 2) rfl; have x3 := cell_of X2.o (o := 3) rfl; have x4 := cell_of X2.o (o := 4) rfl; have x5 := cell_of X2.o (o := 5) rfl; have x6 := cell_of X2.o (o := 6) rfl; have x7 := cell_of X2.o (o := 7) rfl; have x8 := cell_of X2.o (o := 8) rfl; have x9 := cell_of X2.o (o := 9) rfl)
   | (go_at_call 54; refine (cWrite_as HF.o).mono ?_; rintro e w3 ⟨v0, rfl, _, hb⟩; have B3 := ze.mk (B2.o.trans (hb.mono B2.o.size)); clear hb))
  go_ret
  exact ⟨rfl, B3.o⟩
end Go.Proofs.YtkbhilhefnahpaaGreat.Vw
