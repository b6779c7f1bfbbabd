/- ViewKa, ViewK, ViewL in one text. -/
import Derived.Test.YtkbhilhefnahpaaGreatViewX
import Derived.Shelf.SlSortCmp.WholeK
import Derived.Shelf.SlSortCmp.NoneTotal
import Derived.Shelf.Lay
import Derived.Ground.SlsfProg
namespace Go.Proofs.YtkbhilhefnahpaaGreat.Vw
open Go Go.RowKit Go.Proofs.YtkbhilhefnahpaaGreat.ML Go.Proofs.YtkbhilhefnahpaaGreat.Mem Go.Proofs.YtkbhilhefnahpaaGreat.Print Go.Proofs.YtkbhilhefnahpaaGreatW.PrintWords Go.Proofs.YtkbhilhefnahpaaGreatW.PrintLast Go.Proofs.YtkbhilhefnahpaaGreatW.PrintMore
set_option linter.unusedVariables false
set_option linter.unusedSimpArgs false
/-- A change of a word of the plan. -/
abbrev Ch := Fin 2824 × Int
def encCh (x : Ch) : List Value := [.int .i64 (x.1.val : Int), .int .u64 x.2]
def cfCh (x y : Ch) : Int := wrap64 ((x.1.val : Int) - (y.1.val : Int))
def toS (x : Ch) : S50 := ⟨(x.1.val : Int), x.2⟩
/-- The words that are other ones. -/
def VS.changes (V : VS) (S : MS) : List (Int × Int) := V.own.filter fun y => !(y.2 == S.read y.1)
def toP (x : Ch) : Int × Int := ((x.1.val : Int), x.2)
structure Got (V : VS) (S : MS) (left : Int → Bool) (l : List Ch) : Prop where
  nd : l.Pairwise fun x y => x.1.val ≠ y.1.val
  mem : ∀ x : Ch, x ∈ l ↔ (get V.own (x.1.val : Int) = some x.2 ∧ left (x.1.val : Int) = false ∧ x.2 ≠ S.read (x.1.val : Int))
theorem Got.start {V : VS} {S : MS} {left : Int → Bool} (h : ∀ i, left i = (get V.own i).isSome) : Got V S left [] := by
  refine ⟨List.Pairwise.nil, fun x => ⟨fun hx => by (cases hx), fun hx => ?_⟩⟩
  have := h (x.1.val : Int)
  rw [hx.1, hx.2.1] at this
  cases this
theorem Got.skip {V : VS} {S : MS} {left left' : Int → Bool} {l : List Ch} (h : Got V S left l) {k v : Int} (hg : get V.own k = some v) (hv : v = S.read k) (hl : ∀ i, left' i = (left i && !(i == k))) : Got V S left' l := by
  refine ⟨h.nd, fun x => ?_⟩
  rw [h.mem x, hl]
  constructor
  · rintro ⟨h1, h2, h3⟩
    exact ⟨h1, by rw [h2]; rfl, h3⟩
  · rintro ⟨h1, h2, h3⟩
    by_cases e : (x.1.val : Int) = k
    · rw [e, hg] at h1
      rw [e] at h3
      exact absurd (Option.some.inj h1 ▸ hv) h3
    · have : ((x.1.val : Int) == k) = false := by simpa using e
      rw [this] at h2
      exact ⟨h1, by simpa using h2, h3⟩
theorem Got.add {V : VS} {S : MS} {left left' : Int → Bool} {l : List Ch} (h : Got V S left l) {k v : Int} (h0 : 0 ≤ k) (h1 : k < 2824) (hg : get V.own k = some v) (hv : v ≠ S.read k) (hlk : left k = true) (hl : ∀ i, left' i = (left i && !(i == k))) :
    ∃ p : Ch, toS p = ⟨k, v⟩ ∧ Got V S left' (l ++ [p]) := by
  obtain ⟨n, rfl⟩ := Int.eq_ofNat_of_zero_le h0
  refine ⟨(⟨n, by omega⟩, v), rfl, ?_, fun x => ?_⟩
  · rw [List.pairwise_append]
    refine ⟨h.nd, List.pairwise_singleton _ _, fun x hx y hy => ?_⟩
    obtain rfl : y = (⟨n, by omega⟩, v) := by simpa using hy
    intro e
    have h2 := ((h.mem x).1 hx).2.1
    have e' : (x.1.val : Int) = (n : Int) := by rw [e]
    rw [e', hlk] at h2
    cases h2
  · rw [List.mem_append, h.mem x, hl]
    constructor
    · rintro (⟨h1, h2, h3⟩ | hx)
      · exact ⟨h1, by rw [h2]; rfl, h3⟩
      · obtain rfl : x = (⟨n, by omega⟩, v) := by simpa using hx
        exact ⟨hg, by simp, hv⟩
    · rintro ⟨h1, h2, h3⟩
      by_cases e : (x.1.val : Int) = (n : Int)
      · right
        rw [e, hg] at h1
        have h1 := Option.some.inj h1
        have e2 : x.1 = (⟨n, by omega⟩ : Fin 2824) := Fin.ext (by show x.1.val = n; omega)
        have : x = (⟨n, by omega⟩, v) := Prod.ext e2 h1.symm
        rw [this]
        simp
      · left
        have : ((x.1.val : Int) == (n : Int)) = false := by simpa using e
        rw [this] at h2
        exact ⟨h1, by simpa using h2, h3⟩
/-- Behind the sort. -/
theorem Got.done {V : VS} {S : MS} {left : Int → Bool} {l l' : List Ch} (h : Got V S left l) (hs : Sorted V.own) (hr : ∀ y ∈ V.own, 0 ≤ y.1 ∧ y.1 < 2824) (hl : ∀ i, left i = false) (hp : l'.Perm l) (ho : l'.Pairwise fun x y => x.1.val ≤ y.1.val) : l'.map toP = V.changes S := by
  have hnd : l'.Pairwise fun x y => x.1.val ≠ y.1.val := (hp.pairwise_iff (fun hab => hab.symm)).2 h.nd
  have hst : Sorted (l'.map toP) := by
    unfold Sorted
    rw [List.pairwise_map]
    exact (ho.and hnd).imp fun {x y} hab => by
      show (x.1.val : Int) < (y.1.val : Int)
      have h1 := hab.1
      have h2 := hab.2
      omega
  have hst2 : Sorted (V.changes S) := List.Pairwise.filter _ hs
  refine ext hst hst2 fun k => ?_
  cases hg : get (V.changes S) k with
  | some v =>
    have hm := List.mem_filter.1 (yK hg)
    have hb := hr _ hm.1
    obtain ⟨n, rfl⟩ := Int.eq_ofNat_of_zero_le hb.1
    have hx : ((⟨n, by omega⟩, v) : Ch) ∈ l' := hp.mem_iff.2 ((h.mem _).2 ⟨Yg hs hm.1, hl _, by simpa using hm.2⟩)
    exact Yg hst (List.mem_map.2 ⟨_, hx, rfl⟩)
  | none =>
    cases hg2 : get (l'.map toP) k with
    | none => rfl
    | some v =>
      obtain ⟨x, hx, hxe⟩ := List.mem_map.1 (yK hg2)
      have h3 := (h.mem x).1 (hp.mem_iff.1 hx)
      have e1 : (x.1.val : Int) = k := congrArg Prod.fst hxe
      have e2 : x.2 = v := congrArg Prod.snd hxe
      rw [e1, e2] at h3
      have hm : (k, v) ∈ V.changes S := List.mem_filter.2 ⟨yK h3.1, by simpa using h3.2.2⟩
      rw [Yg hst2 hm] at hg
      cases hg
theorem infoCh : (Tryz.prog.info? 50).map (fun i => (i.zero, i.size, i.bytes)) = some (some (.agg #[(.int .i64 0), (.int .u64 0)]), 2, 16) := by kernel_rfl
end Go.Proofs.YtkbhilhefnahpaaGreat.Vw
namespace Go.Proofs.YtkbhilhefnahpaaGreat.Vw
open Go Go.RowKit Go.Shelf Go.Lib Go.Sort Go.Proofs.YtkbhilhefnahpaaGreat.ML Go.Proofs.YtkbhilhefnahpaaGreat.Mem Go.Proofs.YtkbhilhefnahpaaGreat.Print Go.Proofs.YtkbhilhefnahpaaGreatW.PrintWords Go.Proofs.YtkbhilhefnahpaaGreatW.PrintLast Go.Proofs.YtkbhilhefnahpaaGreatW.PrintMore
set_option linter.unusedVariables false
set_option linter.unusedSimpArgs false
shelf_lay_g SlLaysF0.n6 Slsf 6 at Tryz 42 as Tryz.sortCh
theorem ltCh (x y : Ch) : ltOf cfCh x y = decide (x.1.val < y.1.val) := by
  unfold ltOf cfCh wrap64
  have h1 := x.1.isLt
  have h2 := y.1.isLt
  rw [Bool.eq_iff_iff, decide_eq_true_iff, decide_eq_true_iff]
  omega
theorem swoCh : SWO (ltOf cfCh) where
  irrefl x := by rw [ltCh]; simp
  trans x y z h1 h2 := by rw [ltCh] at *; simp at *; omega
  ntrans x y z h1 h2 := by rw [ltCh] at *; simp at *; omega
theorem aggCh (w : World) : (isAgg 50).run Tryz.prog w = .ok true w := by kernel_rfl
theorem sizeCh (w : World) : (Go.sizeOf 50).run Tryz.prog w = .ok 2 w := by kernel_rfl
theorem cmpCh (blk off size : Nat) (w : World) : CmpLays Tryz.prog 43 #[] encCh 2 cfCh blk off size w := by
  intro m os dk hs x y
  refine (Cmp_calls _ _ _ _ _).mono ?_
  rintro e w' ⟨rfl, rfl⟩
  exact ⟨rfl, 0, _, by rw [alloc_eq_grow, alloc_eq_grow, grow_grow]; rfl⟩
theorem flat_at (d : Array Ch) (j : Nat) (hj : j < d.size * 2) : (flatK encCh 2 d)[j]! = (encCh d[j / 2]!)[j % 2]! := get_flatK encCh 2 d j hj
theorem holds_of_R {w : World} {base : Nat} {ok : Nat → Prop} {g cap : Nat} {l : List Ch} (h : Kd.R k50 50 w base ok (.slice (some ⟨g, 0, none⟩) l.length cap) (l.map toS)) (h0 : 0 < l.length) : HoldsK encCh 2 w g 0 l.toArray ∧ g < w.heap.size ∧ base ≤ g ∧ l.length ≤ cap ∧ cap ≤ maxLen := by
  obtain ⟨_, inner, ho, hr⟩ := h
  rw [List.length_map] at ho
  obtain ⟨h1, h2 | ⟨g', cap', cur, hv, hb, hh, h3, h4, h5, h6⟩⟩ := ho
  · omega
  · injection hv with hv _ hc
    injection hv with hv
    injection hv with hv
    subst hv hc
    refine ⟨fun j hj => ?_, (Array.getElem?_eq_some_iff.1 hh).1, hb, h3, h4⟩
    rw [size_flatK, List.size_toArray] at hj
    refine ⟨cell_of hh ?_, ZC hh⟩
    rw [flat_at _ _ (by rw [List.size_toArray]; exact hj), Nat.zero_add]
    have hi : j / 2 < l.length := by omega
    obtain ⟨q, hq⟩ : ∃ q, l[j / 2]? = some q := ⟨_, List.getElem?_eq_getElem hi⟩
    have hK := hr.2 (j / 2) (toS q) (by rw [List.getElem?_map, hq]; rfl)
    have e := k50_openM hK
    have e2 : l.toArray[j / 2]! = q := by
      rw [List.getElem!_toArray, List.getElem!_eq_getElem?_getD, hq]
      rfl
    rw [e2]
    have hd : inner[j]? = (encCh q)[j % 2]? := by
      have : ((inner.drop (j / 2 * 2)).take 2)[j % 2]? = (encCh q)[j % 2]? := by
        have e3 : k50.sz = 2 := rfl
        rw [e3] at e
        rw [e]
        rfl
      rw [List.getElem?_take, if_pos (by omega), List.getElem?_drop] at this
      rw [show j / 2 * 2 + j % 2 = j by omega] at this
      exact this
    have hc : cur[j]? = inner[j]? := by
      rw [← h6, List.getElem?_take, if_pos (by show j < l.length * 2; omega)]
      simp
    rw [hc, hd]
    have hm : j % 2 < 2 := by omega
    rcases Nat.lt_or_ge (j % 2) 1 with h | h
    · have : j % 2 = 0 := by omega
      rw [this]; rfl
    · have : j % 2 = 1 := by omega
      rw [this]; rfl
theorem C_of_holds {w : World} {g : Nat} {d : Array Ch} (h : HoldsK encCh 2 w g 0 d) (hn : d.size ≤ maxLen) : Kd.C k50 w (some ⟨g, 0, none⟩) d.size (d.toList.map toS) := by
  refine ⟨by simp, hn, fun h0 => ⟨⟨g, 0, none⟩, rfl, fun j p hj => ⟨[.int .i64 p.f0, .int .u64 p.f1], rfl, k50_mk w p, fun i u hi => ?_⟩⟩⟩
  rw [List.getElem?_map] at hj
  rcases Nat.lt_or_ge j d.size with hlt | hge
  · rw [Array.getElem?_toList, Array.getElem?_eq_getElem hlt, Option.map_some] at hj
    obtain rfl := Option.some.inj hj
    have hi2 : i < 2 := by have := (List.getElem?_eq_some_iff.1 hi).1; simpa using this
    have hc := (h (j * 2 + i) (by rw [size_flatK]; omega)).1
    rw [flat_at _ _ (by omega), Nat.zero_add] at hc
    have e1 : (j * 2 + i) / 2 = j := by omega
    have e2 : (j * 2 + i) % 2 = i := by omega
    rw [e1, e2, getElem!_pos d j hlt] at hc
    have e3 : id ((encCh d[j])[i]!) = u := by
      rcases Nat.lt_or_ge i 1 with h | h
      · have : i = 0 := by omega
        subst this
        simpa [toS, encCh] using hi
      · have : i = 1 := by omega
        subst this
        simpa [toS, encCh] using hi
    rw [e3] at hc
    show w.cell? (Addr.add ⟨g, 0, none⟩ (j * 2 + i)) = some u
    rw [← hc]
    unfold Addr.add
    split
    · rename_i hz
      have : j * 2 + i = 0 := by simpa using hz
      rw [this]
    · simp
  · rw [Array.getElem?_toList, Array.getElem?_eq_none hge] at hj
    cases hj
theorem sorted_frame (w : World) (blk off n : Nat) (d : Array Ch) (os : Array Obj) {base : Nat} (hb : base ≤ blk) (hw : base ≤ w.heap.size) : Below base w (sortWorldK encCh 2 w blk off n d os) := by
  refine ⟨rfl, rfl, rfl, size_sortWorldK_c encCh 2 w blk off n d os, fun k hk => ?_⟩
  show ((putRowK encCh 2 (Sort.ahead w n) blk off d).heap ++ os)[k]? = w.heap[k]?
  rw [Array.getElem?_append_left (by rw [size_putRowK]; show k < w.heap.size; omega)]
  unfold putRowK putRow mapBlock
  simp [Array.getElem?_modify]
  intro h
  omega
theorem Sort_calls {w : World} {base : Nat} {ok : Nat → Prop} {v : Value} {l : List Ch} (h : Kd.R k50 50 w base ok v (l.map toS)) (hb : base ≤ w.heap.size) (hl : l.length < 4611686018427387904) :
    Calls Tryz.prog 42 #[v, .func (.func 43) #[] #[]] w fun e w' => e = .returned (.tuple #[]) ∧ Below base w w' ∧ ∃ A cap, ∃ l' : List Ch, v = .slice A l.length cap ∧ l.length ≤ cap ∧ Kd.C k50 w' A l.length (l'.map toS) ∧ l'.Perm l ∧ l'.Pairwise (fun x y => x.1.val ≤ y.1.val) ∧ (0 < l.length → ∃ ad, A = some ad ∧ base ≤ ad.block) := by
  obtain ⟨A, cap, hv⟩ := Kd.yc h
  rw [List.length_map] at hv
  subst hv
  by_cases h0 : l.length = 0
  · have hnil : l = [] := List.eq_nil_of_length_eq_zero h0
    subst hnil
    have := AnyF.slices_SortFunc_none Tryz.sortCh A cap (.func (.func 43) #[] #[]) w
    change Calls Tryz.prog 42 _ _ _ at this
    refine this.mono ?_
    rintro e w' ⟨rfl, rfl⟩
    obtain ⟨hc, hC⟩ := (Kd.zQ h).2
    exact ⟨rfl, Below.refl _ _, A, cap, [], rfl, Nat.zero_le _, hC, List.Perm.refl _, List.Pairwise.nil, fun h => absurd h (by simp)⟩
  · obtain ⟨g, cap', e, _⟩ := Kd.Yh h (by rw [List.length_map]; omega)
    injection e with e _ e2
    subst e
    obtain ⟨hH, hg, hbg, hc, hcm⟩ := holds_of_R h (by omega)
    have eg : ∀ args w, (callFunc 43 args).run Tryz.prog w = .ok (.enter 43 args) w := enters_of Tryz.func43 (by kernel_rfl) rfl
    have hs := AnyQ.slices_SortFunc Tryz.sortCh 2 aggCh sizeCh encCh (fun _ => rfl) (fun x v hv => by simp [encCh] at hv; rcases hv with rfl | rfl <;> rfl) cfCh swoCh 43 #[] g 0 cap l.toArray w eg (cmpCh g 0 _ w) hH hg (by simpa using hl)
    change Calls Tryz.prog 42 _ _ _ at hs
    rw [List.size_toArray] at hs
    refine hs.mono ?_
    rintro e w' ⟨rfl, d', n, os, hp, hso, rfl⟩
    have hsz : d'.size = l.length := by have := hp.1; simpa using this
    refine ⟨rfl, sorted_frame w g 0 n d' os hbg hb, _, cap, d'.toList, rfl, hc, ?_, ?_, ?_, fun _ => ⟨_, rfl, hbg⟩⟩
    · have hC := C_of_holds (holdsK_sortWorldK_c encCh 2 w g 0 l.toArray d' n os hH hg hp.1) (by rw [hsz]; omega)
      rw [hsz] at hC
      exact hC
    · have h3 := hp.2.2
      rw [Array.extract_eq_self_of_le (by omega)] at h3
      simpa using h3
    · rw [List.pairwise_iff_getElem]
      intro i j hi hj hij
      have := hso i j (Nat.zero_le _) hij (by rw [Array.length_toList] at hj; omega)
      rw [ltCh, getElem!_pos d' j (by simpa using hj), getElem!_pos d' i (by simpa using hi)] at this
      simp at this
      simpa using this
end Go.Proofs.YtkbhilhefnahpaaGreat.Vw
namespace Go.Proofs.YtkbhilhefnahpaaGreat.Vw
open Go Go.RowKit Go.Proofs.YtkbhilhefnahpaaGreat.ML Go.Proofs.YtkbhilhefnahpaaGreat.Mem Go.Proofs.YtkbhilhefnahpaaGreat.Print Go.Proofs.YtkbhilhefnahpaaGreatW.PrintWords Go.Proofs.YtkbhilhefnahpaaGreatW.PrintLast Go.Proofs.YtkbhilhefnahpaaGreatW.PrintMore
set_option linter.unusedVariables false
set_option linter.unusedSimpArgs false
set_option maxHeartbeats 2000000 in
set_option maxRecDepth 100000 in
theorem Changes_new {w : World} {q : Vp} {f : Fp} {V : VS} {S : MS} (h : zR w q f V) (hm : IsMem w f S) :
    Calls Tryz.prog 13 #[vptr q] w fun e w' => ∃ A cap, ∃ l : List Ch, e = .returned (.slice A l.length cap) ∧ l.length ≤ cap ∧ Kd.C k50 w' A l.length (l.map toS) ∧ l.map toP = V.changes S ∧ Below w.heap.size w w' ∧ (0 < l.length → ∃ ad, A = some ad ∧ w.heap.size ≤ ad.block) := by
  have c1 := h.facts.c1
  have HV := ze.mk h
  have HM := ze.mk hm
  clear h hm
  go_enter Tryz.func13, Tryz.ntmps13
  go_wp2_with (first
    | (at_range; refine wpList_range_own _ rfl _ 55 rfl 3 34 mt.keyed mt.ht _ q.bo _ _ rfl HV.o.own ?_; intro w2 hrg0 hg0 hs0))
  obtain ⟨r, hrr⟩ : ∃ r, w.heap.size = r := ⟨_, rfl⟩
  have HRR := ze.mk hrr
  rw [hrr] at hrg0
  simp only [hrr]
  go_frame
  have RG := ze.mk hrg0
  have B0 := ze.mk ((Below.refl w.heap.size w).grown hg0 (Nat.le_refl _) (fun k hk => by cases hk))
  have Z0 := ze.mk hs0
  have CZ := ze.mk (show Maps.size (D ek V.own) ≤ 2824 by rw [D_size]; exact HV.o.own_len)
  clear hrg0 hg0 hs0 hrr c1
  go_loopw [3] (fun x wr => ∃ (vl : Value) (left : Lit → Bool) (cnt : Nat) (l : List Ch), vl = x ∧ IsRange wr q.bo r V.own.length V.own left cnt ∧ Got V S (fun j => left (.int .i64 j)) l ∧ Kd.R k50 50 wr w.heap.size (fun k => r < k) vl (l.map toS) ∧ Below w.heap.size w wr ∧ l.length + cnt ≤ Maps.size (D ek V.own)) (fun _ wr => wr.rangeLeft q.bo r)
  case atStart => exact ⟨_, _, _, [], rfl, RG.o, Got.start (fun i => D_has ek V.own i), Kd.R_nil _ _ _ _ _, B0.o, by simp⟩
  case round =>
    obtain ⟨vl, left, cnt, l, hvl, hrg, hgt, hr, hb, hcn⟩ := hrel
    subst hvl
    have HG := ze.mk hrg
    have GT := ze.mk hgt
    have RR := ze.mk hr
    have BB := ze.mk hb
    have CN := ze.mk hcn
    clear hrg hgt hr hb hcn RG B0
    go_wp2_with (first
      | (at_next; refine wpList_next_ranges_ii _ rfl _ rfl 3 34 .i64 .u64 mt.keyed mt.hk Tryz.underlying34 q.bo r _ _ _ _ rfl HG.o ?_ ?_))
    · intro hc0 hl0
      have HE := ze.mk hl0
      clear hc0 hl0
      go_wp2_with (go_at_call 42; refine (Sort_calls RR.o BB.o.size (by have h1 := CN.o; have h2 := CZ.o; omega)).mono ?_; rintro e w3 ⟨rfl, hb, A, cap, l', rfl, hc, hC, hp, ho, hn⟩; have N3 := ze.mk hn; have B3 := ze.mk (BB.o.trans hb); have C3 := ze.mk hC; have P3 := ze.mk hp; have O3 := ze.mk ho; have K3 := ze.mk hc; clear hb hc hC hp ho hn)
      go_ret
      have hlen := P3.o.length_eq
      refine ⟨A, cap, l', by rw [hlen]; rfl, by rw [hlen]; exact K3.o, by rw [hlen]; exact C3.o, ?_, B3.o, fun h => N3.o (by rw [← hlen]; exact h)⟩
      exact GT.o.done (HV.o.own.sorted mt) (fun y hy => ⟨(HV.o.ok.own y hy).1, (HV.o.ok.own y hy).2.1⟩) (fun i => HE.o _) P3.o O3.o
    · intro x c w2 cnt2 hwx hwc hlx hat hrg2 hlt hg2 hs2 hen
      have hget := range_get hat
      have hin : 0 ≤ x ∧ x < 2824 := by
        have := HV.o.ok.own _ (yK hget)
        exact ⟨this.1, this.2.1⟩
      have hr2 : Kd.R k50 50 w2 w.heap.size (fun k => r < k) vl (l.map toS) := Kd.R_grown RR.o hg2 (fun k hk => by have : r < k := hk; simp; omega)
      have hb2 : Below w.heap.size w w2 := BB.o.grown hg2 BB.o.size (fun k hk => by cases hk; rw [HRR.o]; exact Nat.le_refl _)
      have hst := fun i => range_key (left := left) rfl (x := x) i
      obtain ⟨y, hy⟩ : ∃ y, S.read x = y := ⟨_, rfl⟩
      have HY := ze.mk hy
      have HX := ze.mk (show oki x by unfold oki; omega)
      have M2 := ze.mk (HM.o.below hb2)
      have V2 := ze.mk (HV.o.below hb2)
      have c0 := V2.o.facts.c0
      have hrl := hrg2.lt
      have R2 := ze.mk hr2
      have B2 := ze.mk hb2
      have G2 := ze.mk hrg2
      have HT := ze.mk hlt
      by_cases hcy : c = y
      · have g0 : (c != y) = false := by simp [hcy]
        have GN := ze.mk (GT.o.skip hget (hcy.trans hy.symm) hst)
        clear hget hr2 hb2 hst hy hrg2 hlt hlx hat hg2 hs2 hwx hwc hcy
        go_wp2_with (first
          | (go_at_call 12; refine (ZN M2.o _ HX.o y HY.o).mono ?_; rintro e w3 ⟨rfl, rfl⟩))
        go_roundw
        case rel => exact ⟨_, _, cnt2, l, rfl, G2.o, GN.o, R2.o, B2.o, by have h1 := CN.o; have h2 := HT.o; omega⟩
        case measure => rw [G2.o.left_eq, HG.o.left_eq]; exact HT.o
      · have g0 : (c != y) = true := by simp [hcy]
        obtain ⟨p, hp, hgn⟩ := GT.o.add hin.1 hin.2 hget (fun e => hcy (e.trans hy)) hlx hst
        have GN := ze.mk hgn
        have HP := ze.mk hp
        have RL := ze.mk hrl
        have QB := ze.mk (show q.bo < r by have := HV.o.own.lt; have := HRR.o; omega)
        clear hget hr2 hb2 hst hy hrg2 hlt hlx hat hg2 hs2 hwx hwc hcy hgn hp
        go_wp2_with (first
          | (go_at_call 12; refine (ZN M2.o _ HX.o y HY.o).mono ?_; rintro e w3 ⟨rfl, rfl⟩)
          | ((with_reducible refine zD (N := 31) rfl ?_); refine Kd.YI k50 (w0 := w) w.heap.size rfl (.tmp 26) (.tmp 30) 42 50 (.agg #[(.int .i64 0), (.int .u64 0)]) 16 rfl Tryz.underlying42 infoCh rfl (by decide) (by omega) vl (l.map toS) (⟨x, c⟩ : S50) [.int .i64 x, .int .u64 c] (fun k => r < k) (fun _ => False) rfl rfl (k50_mkM _ _ _ _) (fun _ hk => hk.elim) (fun k hk => Nat.lt_of_lt_of_le RL.o hk) R2.o B2.o B2.o.size (by have h1 := CN.o; have h2 := CZ.o; rw [List.length_map]; omega) ?_; intro v1 w3 hO hb3 hg3 hn3;
             have G3 := ze.mk (World.ranges.kept G2.o hg3 (by intro e; have h1 := R2.o.1 q.bo e.symm; have h2 := QB.o; omega) (by intro e; have h1 := R2.o.1 r e.symm; omega)); have R3 := ze.mk hO; have B3 := ze.mk hb3; clear hO hb3 hg3 hn3))
        go_roundw
        case rel => exact ⟨_, _, cnt2, l ++ [p], rfl, G3.o, GN.o, by rw [List.map_append, List.map_cons, List.map_nil, HP.o]; exact R3.o, B3.o, by have h1 := CN.o; have h2 := HT.o; rw [List.length_append]; simp; omega⟩
        case measure => rw [G3.o.left_eq, HG.o.left_eq]; exact HT.o
theorem YK {w : World} {q : Vp} {f : Fp} {V : VS} {S : MS} (h : zR w q f V) (hm : IsMem w f S) :
    Calls Tryz.prog 13 #[vptr q] w fun e w' => ∃ A cap, ∃ l : List Ch, e = .returned (.slice A l.length cap) ∧ l.length ≤ cap ∧ Kd.C k50 w' A l.length (l.map toS) ∧ l.map toP = V.changes S ∧ Below w.heap.size w w' := by
  refine (Changes_new h hm).mono ?_
  rintro e w' ⟨A, cap, l, rfl, h1, h2, h3, h4, _⟩
  exact ⟨A, cap, l, rfl, h1, h2, h3, h4⟩
end Go.Proofs.YtkbhilhefnahpaaGreat.Vw
