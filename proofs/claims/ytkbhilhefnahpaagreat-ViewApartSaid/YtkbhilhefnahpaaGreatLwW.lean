/- VmP, LwA, LwImg, LwEarly in one text. -/
import Derived.Test.YtkbhilhefnahpaaGreatViewZ
import Derived.Test.YtkbhilhefnahpaaGreatViewY
import Derived.Test.YtkbhilhefnahpaaGreatPrint3
import Derived.Test.YtkbhilhefnahpaaGreatLwStep
import Derived.Test.YtkbhilhefnahpaaGreatPrint5
namespace Go.Proofs.YtkbhilhefnahpaaGreat.Vw
open Go Go.RowKit Go.Proofs.YtkbhilhefnahpaaGreat.ML Go.Proofs.YtkbhilhefnahpaaGreat.Mem
set_option linter.unusedVariables false
set_option linter.unusedSimpArgs false
theorem call_run {S : MS} (h : S.til = -1) (b : Bool) : S.call b = (if b then 0 else 1, { S with calls := wrap64 (S.calls + 1) }) := by
 unfold MS.call
 rw [if_neg (by omega), if_neg (by omega)]
theorem Yt {S : MS} (h : S.til = -1) {i : Int} (hi : S.has i = true) (v : Int) : S.store i v = (0, ({ S with calls := wrap64 (S.calls + 1) } : MS).set i ⟨(S.at i).sure, some v, (S.at i).way⟩) := by
 unfold MS.store
 rw [call_run h, hi]
 rfl
theorem read_store {S : MS} (h : S.til = -1) {i : Int} (hi : S.has i = true) (v j : Int) : (S.store i v).2.read j = if j = i then v else S.read j := by
 rw [Yt h hi]
 have hh := (S.has_iff i).1 hi
 unfold MS.read
 have e : (({ S with calls := wrap64 (S.calls + 1) } : MS).set i ⟨(S.at i).sure, some v, (S.at i).way⟩).has j = S.has j := by
  unfold MS.has
  rw [MS.set_len]
 rw [e]
 by_cases hj : S.has j = true
 ·have hk := (S.has_iff j).1 hj
  rw [if_pos hj, if_pos hj]
  show ((({ S with calls := wrap64 (S.calls + 1) } : MS).set i ⟨(S.at i).sure, some v, (S.at i).way⟩).at j).now = _
  rw [MS.set_at ({ S with calls := wrap64 (S.calls + 1) } : MS) _ hh.1 hh.2 j hk.1]
  by_cases e2 : j = i
  ·rw [if_pos e2, if_pos e2]; rfl
  ·rw [if_neg e2, if_neg e2]; rfl
 ·rw [if_neg hj, if_neg hj]
  by_cases e2 : j = i
  ·subst e2; exact absurd hi hj
  ·rw [if_neg e2]
structure Part (V : VS) (S0 S : MS) (n : Nat) : Prop where
 til : S.til = -1
 len : S.ws.length = 2824
 rd : ∀ i : Int, S.read i = if i ∈ ((V.changes S0).take n).map (·.1) then V.read S0 i else S0.read i
theorem Part.start {V : VS} {S0 : MS} (h : S0.til = -1) (hl : S0.ws.length = 2824) : Part V S0 S0 0 := ⟨h, hl, fun i => by simp⟩
theorem changes_own {V : VS} {S : MS} {y : Int × Int} (h : y ∈ V.changes S) : y ∈ V.own := (List.mem_filter.1 h).1
theorem read_own {V : VS} (hs : Sorted V.own) (S : MS) {y : Int × Int} (h : y ∈ V.own) : V.read S y.1 = y.2 := by
 unfold VS.read
 rw [Yg hs h]; rfl
theorem Part.step {V : VS} {S0 S : MS} {n : Nat} (h : Part V S0 S n) (hs : Sorted V.own) (hr : ∀ y ∈ V.own, 0 ≤ y.1 ∧ y.1 < 2824) {k v : Int} (hk : (V.changes S0)[n]? = some (k, v)) : (S.store k v).1 = 0 ∧ Part V S0 (S.store k v).2 (n + 1) := by
 have hm : (k, v) ∈ V.own := changes_own (List.mem_of_getElem? hk)
 have h0 := hr _ hm
 have hh : S.has k = true := (S.has_iff k).2 ⟨h0.1, by have := h.len; have := h0.2; simp only at this; omega⟩
 have ev : V.read S0 k = v := read_own hs S0 hm
 refine ⟨by rw [Yt h.til hh], ⟨?_, ?_, fun i => ?_⟩⟩
 ·rw [Yt h.til hh]; exact h.til
 ·rw [Yt h.til hh]; show (MS.set _ _ _).ws.length = _; rw [MS.set_len]; exact h.len
 ·rw [read_store h.til hh, h.rd i, List.take_add_one, hk, Option.toList_some, List.map_append, List.map_cons, List.map_nil]
  by_cases e : i = k
  ·rw [if_pos e, if_pos (by rw [e]; simp), e, ev]
  ·rw [if_neg e]
   by_cases e2 : i ∈ ((V.changes S0).take n).map (·.1)
   ·rw [if_pos e2, if_pos (List.mem_append_left _ e2)]
   ·rw [if_neg e2, if_neg (by simp only [List.mem_append, List.mem_singleton]; exact fun hx => hx.elim e2 e)]
theorem Part.all {V : VS} {S0 S : MS} {n : Nat} (h : Part V S0 S n) (hs : Sorted V.own) (hn : (V.changes S0).length ≤ n) (i : Int) : S.read i = V.read S0 i := by
 rw [h.rd i, List.take_of_length_le hn]
 split
 ·rfl
 ·rename_i hx
  unfold VS.read
  cases hg : get V.own i with
  | none => rfl
  | some v =>
   refine Decidable.byContradiction fun hne => hx (List.mem_map.2 ⟨(i, v), ?_, rfl⟩)
   unfold VS.changes
   refine List.mem_filter.2 ⟨yK hg, ?_⟩
   have : ¬ v = S0.read i := fun e => hne (by rw [e]; rfl)
   simpa using this
theorem Part.none {V : VS} {S0 S : MS} {n : Nat} (h : Part V S0 S n) (hs : Sorted V.own) (hn : (V.changes S0).length ≤ n) : V.changes S = [] := by
 unfold VS.changes
 refine List.filter_eq_nil_iff.2 fun y hy => ?_
 rw [h.all hs hn, read_own hs S0 hy]
 simp
end Go.Proofs.YtkbhilhefnahpaaGreat.Vw
namespace Go.Proofs.YtkbhilhefnahpaaGreat.Vw
open Go Go.RowKit Go.Proofs.YtkbhilhefnahpaaGreat.ML Go.Proofs.YtkbhilhefnahpaaGreat.Mem Go.Proofs.YtkbhilhefnahpaaGreat.Print Go.Proofs.YtkbhilhefnahpaaGreatW.PrintWords Go.Proofs.YtkbhilhefnahpaaGreatW.PrintLast Go.Proofs.YtkbhilhefnahpaaGreatW.PrintMore
set_option linter.unusedVariables false
set_option linter.unusedSimpArgs false
theorem Write_as {w : World} {q : Vp} {f : Fp} {V : VS} (h : zR w q f V) (i v : Int) (hi : oki i) (hv : okw v) (ho : PlanF.openB i = true) : Calls Tryz.prog 16 #[vptr q, .int .i64 i, .int .u64 v] w fun e w' =>
  e = .returned (.int .i64 0) ∧ zR w' q f (V.put i v) ∧ Turn [q.bo] w w' := by
 have := ZP h i v hi hv
 rw [ho] at this
 exact this
theorem read_put (V : VS) (S : MS) (i v j : Int) : (V.put i v).read S j = if j = i then v else V.read S j := by
 unfold VS.read VS.put
 simp only [get_put]
 by_cases h : j = i
 ·rw [if_pos h, if_pos h]; rfl
 ·rw [if_neg h, if_neg h]
theorem put_away (V : VS) (i v : Int) : (V.put i v).away = V.away := rfl
theorem fresh_put (V : VS) (S : MS) (i v b : Int) : (V.put i v).fresh S b = (decide (0 ≤ b ∧ b < 96) && (S.read (200 + b) == 0) && ((if 200 + b = i then v else V.read S (200 + b)) == 0) && !noted V.away b) := by
 unfold VS.fresh
 rw [read_put, put_away]
def Clean (S : MS) : Prop := S.ws.length = 2824 ∧ ∀ i : Int, 8 ≤ i → i < 2824 → S.read i = 0
theorem now_of (S : MS) (i : Int) (h0 : 0 ≤ i) (h1 : i < S.ws.length) : S.read i = (S.at i).now := by
 unfold MS.read MS.has
 rw [decide_eq_true ⟨h0, h1⟩]
 rfl
theorem read_loadS {l : List Int} (hl : l.length ≤ 4096) (i : Int) (h0 : 0 ≤ i) (h1 : i < l.length) : (loadS l).read i = l.getD i.toNat 0 := by
 rw [now_of _ i h0 (by rw [Yc]; omega)]
 unfold MS.at loadS
 rw [List.take_of_length_le hl]
 simp only [List.getD_eq_getElem?_getD, List.getElem?_map, List.getElem?_eq_getElem (show i.toNat < l.length by omega), Option.map_some, Option.getD_some]
 rfl
def Sep (f : Fp) (q : Vp) : Prop := ∀ b ∈ f.list, b ≠ q.p ∧ b ≠ q.bo ∧ b ≠ q.bs ∧ b ≠ q.bm
theorem Sep.of {f : Fp} {q : Vp} {n : Nat} (h1 : ∀ b ∈ f.list, b < n) (h2 : ∀ b ∈ q.list, n ≤ b) : Sep f q := by
 intro b hb
 have := h1 b hb
 have a := h2 q.p (by simp [Vp.list])
 have c := h2 q.bo (by simp [Vp.list])
 have d := h2 q.bs (by simp [Vp.list])
 have e := h2 q.bm (by simp [Vp.list])
 omega
theorem Sep.mem1 {w w' : World} {f : Fp} {q : Vp} {S : MS} (h : Sep f q) (hm : IsMem w f S) (t : Turn [q.bo] w w') : IsMem w' f S :=
 hm.kept t fun b hb => by have := h b hb; simp; omega
def headL : List Int := [7021221306412823411, 2824, 0, 0, 0, 0, 0, 0]
theorem head_f : plan_Head.f 7 = some headL := by kernel_rfl
def img : List Int := cpy (List.replicate 2824 0) 0 headL
theorem img_eq : img = headL ++ List.replicate 2816 0 := by
 unfold img cpy
 rw [List.take_zero, List.nil_append, List.length_replicate, List.take_of_length_le (by decide), List.drop_replicate]
 rfl
theorem Yd : img.length = 2824 := by rw [img_eq, List.length_append, List.length_replicate]; rfl
theorem img_ok : ∀ v ∈ img, okw v := by
 intro v hv
 rw [img_eq] at hv
 unfold okw
 rcases List.mem_append.1 hv with hv | hv
 ·simp [headL] at hv; omega
 ·rw [List.eq_of_mem_replicate hv]; omega
theorem image_nil : escritoirelaw08_image.f 7 [] = some img := by
 unfold escritoirelaw08_image.f
 rw [if_pos (by omega), head_f, Option.bind_some]
 simp only [escritoirelaw08_image.l0]
 rw [if_neg (by simp)]
 rfl
theorem YH : Clean (loadS img) := by
 refine ⟨by rw [Yc, Yd]; omega, fun i h0 h1 => ?_⟩
 rw [read_loadS (by rw [Yd]; omega) i (by omega) (by rw [Yd]; omega), img_eq, List.getD_eq_getElem?_getD, List.getElem?_append_right (by simp [headL]; omega)]
 rw [List.getElem?_replicate]
 split <;> rfl
theorem add0 (a : Addr) : a.add 0 = a := by unfold Addr.add; simp
theorem nilC (w : World) : Kd.C k50 w none 0 [] := ⟨rfl, by decide, fun h => absurd h (by simp)⟩
theorem image_as (w : World) : Calls Tryz.prog 5 #[.slice none 0 0] w fun e w' => ∃ (A : Option Addr) (cap : Nat), e = .returned (.slice A 2824 cap) ∧ Kd.C (Kd.int .u64) w' A 2824 img ∧ 2824 ≤ cap ∧ Below w.heap.size w w' := by
 refine (escritoirelaw08_image.calls 7 none 0 [] img w (nilC w) (Nat.le_refl _) image_nil).mono ?_
 rintro e w' ⟨v, rfl, hR, hb⟩
 obtain ⟨A, cap, hv⟩ := Kd.yc hR
 have h := YP (by rw [hv] at hR; exact hR)
 rw [Yd] at hv h
 subst hv
 exact ⟨A, cap, rfl, h.1, h.2, hb⟩
theorem Load_as {w : World} {A : Option Addr} {cap : Nat} {l : List Int} (n : Nat) (hn : l.length = n) (hC : Kd.C (Kd.int .u64) w A n l) (hc : n ≤ cap) (hl : ∀ v ∈ l, okw v) :
  Calls Tryz.prog 6 #[.slice A n cap] w fun e w' => ∃ f : Fp, e = .returned (ptr f) ∧ IsMem w' f (loadS l) ∧ (∀ b ∈ f.list, w.heap.size ≤ b) ∧ Below w.heap.size w w' := by
 subst hn
 exact Load_calls A cap l hC hc hl
theorem New_as {w : World} {f : Fp} {S : MS} (h : IsMem w f S) (hl : S.ws.length = 2824) : Calls Tryz.prog 7 #[ptr f] w fun e w' => ∃ q : Vp, e = .returned (vptr q) ∧ zR w' q f newV ∧ IsMem w' f S ∧ Sep f q ∧ (∀ b ∈ q.list, w.heap.size ≤ b) ∧ Below w.heap.size w w' := by
 refine (Vw.YJ h (by omega)).mono ?_
 rintro e w' ⟨q, rfl, h1, h2, h3⟩
 exact ⟨q, rfl, h1, h.below h3, Sep.of h.lts h2, h2, h3⟩
def S0 : MS := loadS img
theorem S0_len : S0.ws.length = 2824 := YH.1
def v1 : VS := newV.put 1288 7
theorem s1288 : S0.read 1288 = 0 := YH.2 _ (by omega) (by omega)
theorem read1 : v1.read S0 1288 = 7 := by unfold v1; rw [read_put, if_pos rfl]
theorem newV_read (S : MS) (i : Int) : newV.read S i = S.read i := rfl
theorem fresh1 : v1.fresh S0 3 = true := by
 unfold v1
 rw [fresh_put, if_neg (by omega), show S0.read (200 + 3) = 0 from YH.2 _ (by omega) (by omega)]
 rw [newV_read, show S0.read (200 + 3) = 0 from YH.2 _ (by omega) (by omega)]
 rfl
theorem changes1 : v1.changes S0 = [(1288, 7)] := by
 have e : v1.own = [(1288, 7)] := rfl
 unfold VS.changes
 rw [e, List.filter_cons_of_pos (by rw [s1288]; rfl)]
 rfl
theorem one_change {l : List Ch} (h : l.map toP = [(1288, 7)]) : l.length = 1 ∧ l.map toS = [⟨1288, 7⟩] := by
 cases l with
 | nil => cases h
 | cons p r =>
  cases r with
  | cons _ _ => exact absurd (congrArg List.length h) (by simp)
  | nil =>
   have h2 : toP p = (1288, 7) := by simpa using h
   refine ⟨rfl, ?_⟩
   have e1 : (p.1.val : Int) = 1288 := congrArg Prod.fst h2
   have e2 : p.2 = 7 := congrArg Prod.snd h2
   show [toS p] = _
   unfold toS
   rw [e1, e2]
set_option maxHeartbeats 4000000 in
set_option maxRecDepth 100000 in
theorem lives_calls (w : World) : Calls Tryz.prog 4 #[] w fun e w' => e = .returned (.bool true) ∧ Below w.heap.size w w' := by
 go_enter Tryz.func4, Tryz.ntmps4
 go_wp2_with (first
  | (go_at_call 5; refine (image_as _).mono ?_; rintro e w1 ⟨A, cap, rfl, hC, hc, hb⟩; have C1 := ze.mk hC; have K1 := ze.mk hc; have B1 := ze.mk hb; clear hC hc hb)
  | (go_at_call 6; refine (Load_as 2824 Yd C1.o K1.o img_ok).mono ?_; rintro e w2 ⟨f, rfl, f1, f2, f3⟩; have M2 := ze.mk (show IsMem w2 f S0 from f1); have B2 := ze.mk (B1.o.trans (f3.mono B1.o.size)); clear f1 f2 f3)
  | (go_at_call 7; refine (New_as M2.o S0_len).mono ?_; rintro e w3 ⟨q, rfl, f1, f2, f3, f4, f5⟩; have V3 := ze.mk f1; have M3 := ze.mk f2; have SP := ze.mk f3; have QL := ze.mk (fun b hb => Nat.le_trans B2.o.size (f4 b hb)); have B3 := ze.mk (B2.o.trans (f5.mono B2.o.size)); clear f1 f2 f3 f4 f5)
  | (go_at_call 16; refine (Write_as V3.o 1288 7 (by unfold oki; omega) (by unfold okw; omega) (by decide)).mono ?_; rintro e w4 ⟨rfl, r1, r2⟩; have V4 := ze.mk (show zR w4 q f v1 from r1); have M4 := ze.mk (SP.o.mem1 M3.o r2); have T4 := ze.mk r2; clear r1 r2)
  | (go_at_call 13; refine (YK V4.o M4.o).mono ?_; rintro e w5 ⟨A5, cap5, l5, rfl, hc, hC, hl, hb⟩; rw [changes1] at hl; obtain ⟨hl1, hl2⟩ := one_change hl; rw [hl1, hl2] at hC; rw [hl1]; obtain ⟨ad, e5, x0, x1⟩ := at_T50 hC 0 (by omega) (by omega); subst e5; have V5 := ze.mk (V4.o.below hb); have M5 := ze.mk (M4.o.below hb); have T5 := ze.mk (T4.o.trans (Turn.of_below hb _)); have y0 : w5.cell? ad = some (.int .i64 1288) := (by have e := x0; rw [show ad.add ((0 : Int).toNat * 2) = ad from add0 ad] at e; exact e); have y1 : w5.cell? ⟨ad.block, ad.off + 1, none⟩ = some (.int .u64 7) := (by have e := x1; rw [show ad.add ((0 : Int).toNat * 2) = ad from add0 ad] at e; exact e); clear x0 x1; clear hc hC hl hl1 hl2 hb)
  | (go_at_call 11; refine (Read_as V5.o M5.o 1288 (by unfold oki; omega) 7 read1).mono ?_; rintro e w6 ⟨rfl, rfl⟩)
  | (go_at_call 12; refine (ZN M5.o 1288 (by unfold oki; omega) 0 s1288).mono ?_; rintro e w6 ⟨rfl, rfl⟩)
  | (go_at_call 17; refine (Xd V5.o M5.o 3 (by unfold oki; omega) true fresh1).mono ?_; rintro e w6 ⟨rfl, hb⟩; have T6 := ze.mk (T5.o.trans (Turn.of_below hb _)); clear hb))
 go_ret
 exact ⟨rfl, B3.o.trans (T6.o.below B3.o.size (fun x hx => by
  have a := QL.o q.bo (by simp [Vp.list])
  simp at hx
  omega))⟩
end Go.Proofs.YtkbhilhefnahpaaGreat.Vw
namespace Go.Proofs.YtkbhilhefnahpaaGreat.Vw
open Go Go.RowKit Go.Proofs.YtkbhilhefnahpaaGreat.ML Go.Proofs.YtkbhilhefnahpaaGreat.Mem Go.Proofs.YtkbhilhefnahpaaGreat.Vw Go.Proofs.YtkbhilhefnahpaaGreat.Print Go.Proofs.YtkbhilhefnahpaaGreatW.PrintWords Go.Proofs.YtkbhilhefnahpaaGreatW.PrintLast Go.Proofs.YtkbhilhefnahpaaGreatW.PrintMore
set_option linter.unusedVariables false
set_option linter.unusedSimpArgs false
end Go.Proofs.YtkbhilhefnahpaaGreat.Vw
namespace Go.Proofs.YtkbhilhefnahpaaGreat.Rf
open Go Go.RowKit Go.Proofs.YtkbhilhefnahpaaGreat.ML Go.Proofs.YtkbhilhefnahpaaGreat.Mem Go.Proofs.YtkbhilhefnahpaaGreat.Vw Go.Proofs.YtkbhilhefnahpaaGreat.Print Go.Proofs.YtkbhilhefnahpaaGreatW.PrintWords Go.Proofs.YtkbhilhefnahpaaGreatW.PrintLast Go.Proofs.YtkbhilhefnahpaaGreatW.PrintMore
set_option linter.unusedVariables false
set_option linter.unusedSimpArgs false
theorem early_calls (w : World) (A : Option Addr) (n c : Nat) (hn : n ≤ c) (m : Nat) (hm : min n 60 = m) : Calls Tryz.prog 8 #[.slice A n c] w fun e w' => e = .returned (.slice A m c) ∧ Below w.heap.size w w' := by
 have e : (min (n : Int) 60).toNat = m := by omega
 clear hm
 go_enter Tryz.func8, Tryz.ntmps8
 go_wp2
 go_ret
 exact ⟨rfl, Below.refl _ _⟩
theorem cell_turn {L : List Nat} {w w' : World} (t : Turn L w w') {a : Addr} {u : Value} (h : w.cell? a = some u) (hL : a.block ∉ L) : w'.cell? a = some u := by
 have hs : a.block < w.heap.size := by
  by_cases hx : a.block < w.heap.size
  ·exact hx
  ·exfalso
   have e : w.heap[a.block]? = none := by simp; omega
   unfold World.cell? at h
   simp [e] at h
 have e := t.block a.block hs hL
 unfold World.cell? at h ⊢
 rw [e]
 exact h
def opIn (x : S40) : Prop := oki x.f1 ∧ okw x.f2 ∧ okw x.f3.f3 ∧ (∀ v ∈ x.f4, okw v) ∧ (∀ v ∈ x.f5, oki v)
structure OpAt (w : World) (a : Addr) (o : OpP) : Prop where
 y0 : w.cell? a = some (.int .i64 o.k)
 y1 : w.cell? ⟨a.block, a.off + 1, none⟩ = some (.int .i64 o.i)
 y2 : w.cell? ⟨a.block, a.off + 2, none⟩ = some (.int .u64 o.v)
 y3 : w.cell? ⟨a.block, a.off + 3, none⟩ = some (.int .i64 o.c.k)
 y4 : w.cell? ⟨a.block, a.off + 4, none⟩ = some (.int .i64 o.c.l)
 y5 : w.cell? ⟨a.block, a.off + 5, none⟩ = some (.int .i64 o.c.s)
 y6 : w.cell? ⟨a.block, a.off + 6, none⟩ = some (.int .u64 o.c.v)
 y7 : w.cell? ⟨a.block, a.off + 7, none⟩ = some (.int .i64 o.c.d0)
 y8 : w.cell? ⟨a.block, a.off + 8, none⟩ = some (.int .i64 o.c.d1)
 y9 : w.cell? ⟨a.block, a.off + 9, none⟩ = some (.int .i64 o.c.d2)
 y10 : w.cell? ⟨a.block, a.off + 10, none⟩ = some (.int .i64 o.c.d3)
 y11 : w.cell? ⟨a.block, a.off + 11, none⟩ = some (.int .i64 o.c.d4)
 y12 : w.cell? ⟨a.block, a.off + 12, none⟩ = some (.int .i64 o.c.m)
 y13 : w.cell? ⟨a.block, a.off + 13, none⟩ = some (.slice o.A o.L.length o.cA)
 y14 : w.cell? ⟨a.block, a.off + 14, none⟩ = some (.slice o.B o.I.length o.cB)
theorem cell_kept {w w' : World} (hb : Below w.heap.size w w') {a : Addr} {u : Value} (h : w.cell? a = some u) : w'.cell? a = some u := cell_turn (Turn.of_below hb []) h (by simp)
theorem op_at {w w' : World} {A : Option Addr} {n : Nat} {sc : List S40} (h : Kd.C k40 w A n sc) (hn : n = sc.length) (hb : Below w.heap.size w w') (j : Nat) (hj : j < n) (hs : ∀ x ∈ sc, opIn x) : ∃ ad o, A = some ad ∧ OpOk w o ∧ OpAt w' (ad.add (j * 15)) o := by
 subst hn
 have hm : yP sc (j : Int) ∈ sc := by
  have e : yP sc (j : Int) = sc[j] := by
   unfold yP
   simp [hj]
  rw [e]
  exact List.getElem_mem hj
 obtain ⟨ad, A13, c13, A14, c14, e, x0, x1, x2, x3, x4, x5, x6, x7, x8, x9, x10, x11, x12, x13, x14, l1, C1, l2, C2⟩ := at_T40 h (j : Int) (by omega) (by omega)
 obtain ⟨h1, h2, h3, h4, h5⟩ := hs _ hm
 generalize yP sc (j : Int) = x at *
 rw [Int.toNat_natCast] at *
 exact ⟨ad, ⟨x.f0, x.f1, x.f2, ⟨x.f3.f0, x.f3.f1, x.f3.f2, x.f3.f3, x.f3.f4.f0, x.f3.f4.f1, x.f3.f4.f2, x.f3.f4.f3, x.f3.f4.f4, x.f3.f5⟩, A13, c13, x.f4, A14, c14, x.f5⟩, e, ⟨h1, h2, h3, C1, l1, h4, C2, l2, C2.2.1, h5⟩,
  ⟨cell_kept hb x0, cell_kept hb x1, cell_kept hb x2, cell_kept hb x3, cell_kept hb x4, cell_kept hb x5, cell_kept hb x6, cell_kept hb x7, cell_kept hb x8, cell_kept hb x9, cell_kept hb x10, cell_kept hb x11, cell_kept hb x12, cell_kept hb x13, cell_kept hb x14⟩⟩
section
variable {w0 w w1 w2 : World} {q q1 q2 : Vp} {f : Fp} {r r1 r2 : Rp} {V V1 V2 : VS} {S : MS} {R R1 R2 : RS}
theorem vChanges_at (hp : q1.p = q.p) (h : zR w q1 f V) (hm : IsMem w f S) : Calls Tryz.prog 13 #[vptr q] w fun e w' => ∃ A cap, ∃ l : List Ch, e = .returned (.slice A l.length cap) ∧ l.length ≤ cap ∧ Kd.C k50 w' A l.length (l.map toS) ∧ l.map toP = V.changes S ∧ Below w.heap.size w w' ∧ (0 < l.length → ∃ ad, A = some ad ∧ w.heap.size ≤ ad.block) := by
 have e1 : vptr q = vptr q1 := by show Value.pointer _ = Value.pointer _; rw [hp]
 rw [e1]
 exact Changes_new h hm
end
end Go.Proofs.YtkbhilhefnahpaaGreat.Rf
