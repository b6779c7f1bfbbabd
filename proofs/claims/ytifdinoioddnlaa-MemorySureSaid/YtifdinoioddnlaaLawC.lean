/- The statements' helpers: scripts. -/
import Derived.Handy
import Derived.Test.YtifdinoioddnlaaLawLoads
namespace Go.Proofs.Ytifdinoioddnlaa.Mem
open Go Go.RowKit Go.Proofs.Ytifdinoioddnlaa.ML Go.Proofs.YtifdinoioddnlaaW.PrintWords Go.Proofs.YtifdinoioddnlaaW.PrintLast Go.Proofs.YtifdinoioddnlaaW.PrintMore Go.Proofs.Ytifdinoioddnlaa.Print
set_option linter.unusedVariables false
set_option linter.unusedSimpArgs false
section
attribute [local go_sem] min2_int
set_option maxHeartbeats 1000000 in
set_option maxRecDepth 100000 in
theorem early_calls (w : World) (A : Option Addr) (n c : Nat) (h : n ≤ c) (hn : n ≤ 9223372036854775807) : Calls Try.prog 18 #[.slice A n c] w fun e w' => ∃ m : Nat, m = min n 200 ∧ e = .returned (.slice A m c) ∧ w = w' := by
  by_cases hle : n ≤ 200
  · have g0 : min (n : Int) 200 = n := by omega
    have e : n = min n 200 := by omega
    have E := Aside0.mk e
    clear e hle
    go_enter Try.func18, Try.ntmps18
    go_wp2
    try go_region
    all_goals go_wp2
    all_goals go_ret
    all_goals exact ⟨n, E.out, rfl, rfl⟩
  · have g0 : min (n : Int) 200 = 200 := by omega
    have g1 : (200 : Int) ≤ c := by omega
    have e : 200 = min n 200 := by omega
    have E := Aside0.mk e
    clear e hle
    go_enter Try.func18, Try.ntmps18
    go_wp2
    try go_region
    all_goals go_wp2
    all_goals go_ret
    all_goals exact ⟨200, E.out, rfl, rfl⟩
end
/-- A script that is read. -/
structure Script (W : World) (A : Option Addr) (n c : Nat) (l : List S40) : Prop where
  reads : Kd.C k40 W A n l
  le : n ≤ c
  ok : ∀ o ∈ l, okOp o
theorem Script.take {W : World} {A : Option Addr} {c : Nat} {l : List S40} (h : Script W A l.length c l) (m : Nat) (hm : m = min l.length 200) : Script W A m c (l.take 200) := by
  have h1 := C_take h.reads 200
  have hl : (l.take 200).length = m := by rw [hm]; simp; omega
  rw [hl] at h1
  exact ⟨h1, by have := h.le; omega, fun o ho => h.ok o (List.mem_of_mem_take ho)⟩
theorem Script.len {W : World} {A : Option Addr} {n c : Nat} {l : List S40} (h : Script W A n c l) : l.length = n := h.reads.1
/-- The step at a place: its cells in a later world. -/
theorem Script.at {W w : World} {A : Option Addr} {n c : Nat} {l : List S40} (h : Script W A n c l) (hb : Below W.heap.size W w) (k : Nat) (hk : k < n) :
    ∃ (o : S40) (ad : Addr) (KA : Option Addr) (kc : Nat), l[k]? = some o ∧ okOp o ∧ A = some ad ∧ w.cell? (ad.add (k * 4)) = some (.int .i64 o.f0) ∧ w.cell? ⟨(ad.add (k * 4)).block, (ad.add (k * 4)).off + 1, none⟩ = some (.int .i64 o.f1) ∧ w.cell? ⟨(ad.add (k * 4)).block, (ad.add (k * 4)).off + 2, none⟩ = some (.int .u64 o.f2) ∧ w.cell? ⟨(ad.add (k * 4)).block, (ad.add (k * 4)).off + 3, none⟩ = some (.slice KA o.f3.length kc) ∧ o.f3.length ≤ kc ∧ Kd.C Kd.bool W KA o.f3.length o.f3 := by
  have hl := h.len
  have hlk : k < l.length := by omega
  obtain ⟨ad, A3, c3, hA, x0, x1, x2, x3, hle, hC⟩ := at_T40 h.reads (k : Int) (by omega) (by omega)
  have e : rd_T40 l (k : Int) = l[k] := by unfold rd_T40; rw [Int.toNat_natCast, List.getD_eq_getElem?_getD]; simp [hlk]
  rw [Int.toNat_natCast] at x0 x1 x2 x3
  rw [e] at x0 x1 x2 x3 hle hC
  have hlt : (ad.add (k * 4)).block < W.heap.size := World.block_lt_of_cell? W _ x0
  exact ⟨l[k], ad, A3, c3, List.getElem?_eq_getElem hlk, h.ok _ (List.getElem_mem hlk), hA, (hb.cell hlt).trans x0, (hb.cell (p := ⟨(ad.add (k * 4)).block, (ad.add (k * 4)).off + 1, none⟩) hlt).trans x1, (hb.cell (p := ⟨(ad.add (k * 4)).block, (ad.add (k * 4)).off + 2, none⟩) hlt).trans x2, (hb.cell (p := ⟨(ad.add (k * 4)).block, (ad.add (k * 4)).off + 3, none⟩) hlt).trans x3, hle, hC⟩
theorem Does.det {S : MS} {o : S40} {q q' : Int} {S' S'' : MS} (h : Does S o q S') (h' : Does S o q' S'') (hk : kindOf o.f0 < 5) : q = q' ∧ S' = S'' := by
  obtain ⟨k0, k1⟩ := kindOf_lt o.f0
  have hc : kindOf o.f0 = 0 ∨ kindOf o.f0 = 1 ∨ kindOf o.f0 = 2 ∨ kindOf o.f0 = 3 ∨ kindOf o.f0 = 4 := by omega
  rcases hc with e | e | e | e | e
  · have := (h.s0 e).trans (h'.s0 e).symm; exact ⟨congrArg Prod.fst this, congrArg Prod.snd this⟩
  · have := (h.s1 e).trans (h'.s1 e).symm; exact ⟨congrArg Prod.fst this, congrArg Prod.snd this⟩
  · have := (h.s2 e).trans (h'.s2 e).symm; exact ⟨congrArg Prod.fst this, congrArg Prod.snd this⟩
  · exact ⟨(h.s3 e).1.trans (h'.s3 e).1.symm, (h.s3 e).2.trans (h'.s3 e).2.symm⟩
  · exact ⟨(h.s4 e).1.trans (h'.s4 e).1.symm, (h.s4 e).2.trans (h'.s4 e).2.symm⟩
theorem call_len (S : MS) (b : Bool) : (S.call b).2.ws.length = S.ws.length := by rw [call_ws]
theorem store_len (S : MS) (i v : Int) : (S.store i v).2.ws.length = S.ws.length := by
  unfold MS.store
  simp only []
  split
  · rw [MS.set_len, call_len]
  · rw [call_len]
theorem flush_len (S : MS) (i : Int) : (S.flush i).2.ws.length = S.ws.length := by
  unfold MS.flush
  simp only []
  split
  · rw [MS.flushTo_len, call_len]
  · rw [call_len]
theorem fence_len (S : MS) : S.fence.2.ws.length = S.ws.length := by
  unfold MS.fence
  simp only []
  split
  · rw [MS.mapI_len, call_len]
  · rw [call_len]
theorem evict_len (S : MS) (i : Int) : (S.evict i).ws.length = S.ws.length := by
  unfold MS.evict
  split
  · split
    · rw [MS.set_len]
    · rfl
  · rfl
theorem Does.len {S : MS} {o : S40} {q : Int} {S' : MS} (h : Does S o q S') : S'.ws.length = S.ws.length := by
  obtain ⟨k0, k1⟩ := kindOf_lt o.f0
  have hc : kindOf o.f0 = 0 ∨ kindOf o.f0 = 1 ∨ kindOf o.f0 = 2 ∨ kindOf o.f0 = 3 ∨ kindOf o.f0 = 4 ∨ kindOf o.f0 = 5 := by omega
  rcases hc with e | e | e | e | e | e
  · rw [show S' = _ from congrArg Prod.snd (h.s0 e)]; exact store_len _ _ _
  · rw [show S' = _ from congrArg Prod.snd (h.s1 e)]; exact flush_len _ _
  · rw [show S' = _ from congrArg Prod.snd (h.s2 e)]; exact fence_len _
  · rw [(h.s3 e).2]; exact evict_len _ _
  · rw [(h.s4 e).2]; rfl
  · exact (h.s5 e).2.len
theorem does_as {w : World} {f : Fp} {S : MS} (h : IsMem w f S) {W : World} (hb : Below W.heap.size W w) (hf : ∀ b ∈ f.list, W.heap.size ≤ b) (o : S40) (ho : okOp o) (KA : Option Addr) (kc : Nat) (hk : Kd.C Kd.bool W KA o.f3.length o.f3) (hkc : o.f3.length ≤ kc) :
    Calls Try.prog 20 #[ptr f, opV o KA kc] w fun e w' => ∃ q S', e = .returned (.int .i64 q) ∧ IsMem w' f S' ∧ Does S o q S' ∧ Turn f.list w w' ∧ Below W.heap.size W w' :=
  (does_calls h o ho KA kc (Bools.of_C hk hb hf) hkc).mono fun e w' ⟨q, S', h1, h2, h3, h4⟩ => ⟨q, S', h1, h2, h3, h4, hb.trans (h4.below hb.size hf)⟩
theorem image_get (S : MS) (i : Int) (h0 : 0 ≤ i) (h1 : i < S.ws.length) : S.image[i.toNat]? = some (S.at i).now := by
  have hlt : i.toNat < S.ws.length := by omega
  unfold MS.image MS.at
  rw [List.getElem?_map, List.getElem?_eq_getElem hlt, List.getD_eq_getElem?_getD, List.getElem?_eq_getElem hlt]
  rfl
theorem image_ext {S S' : MS} (hl : S.ws.length = S'.ws.length) (h : ∀ i : Int, 0 ≤ i → i < S.ws.length → (S.at i).now = (S'.at i).now) : S.image = S'.image := by
  refine List.ext_getElem? fun j => ?_
  rcases Nat.lt_or_ge j S.ws.length with hj | hj
  · have e1 := image_get S (j : Int) (by omega) (by omega)
    have e2 := image_get S' (j : Int) (by omega) (by omega)
    rw [Int.toNat_natCast] at e1 e2
    rw [e1, e2, h _ (by omega) (by omega)]
  · rw [List.getElem?_eq_none (by simp [MS.image]; omega), List.getElem?_eq_none (by simp [MS.image]; omega)]
theorem keys_nil {S : MS} (h : ∀ i : Int, 0 ≤ i → i < S.ws.length → (S.at i).loose = none) : S.keys = [] := by
  refine List.eq_nil_iff_forall_not_mem.2 fun k hk => ?_
  obtain ⟨h0, h1, v, hv⟩ := (S.keys_mem k).1 hk
  rw [h k h0 h1] at hv
  cases hv
theorem Crashed.loose {S S' : MS} {keep : List Bool} (h : Crashed S keep S') (i : Int) (h0 : 0 ≤ i) (h1 : i < S'.ws.length) : (S'.at i).loose = none := by
  obtain ⟨x, a, _⟩ := h.cell i h0 (by have := h.len; omega)
  rw [a]
theorem Crashed.image_all {S S' : MS} (h : Crashed S [true] S') : S'.image = S.image := by
  refine image_ext h.len fun i h0 h1 => ?_
  obtain ⟨x, a, _, _, d⟩ := h.cell i h0 (by have := h.len; omega)
  rw [a, ← d rfl]
  rfl
theorem Crashed.image_none {S S' : MS} (h : Crashed S [] S') (hs : ∀ i : Int, 0 ≤ i → i < S.ws.length → (S.at i).now = (S.at i).sure) : S'.image = S.image := by
  refine image_ext h.len fun i h0 h1 => ?_
  have h1' : i < S.ws.length := by have := h.len; omega
  obtain ⟨x, a, _, c, _⟩ := h.cell i h0 h1'
  rw [a, hs i h0 h1', ← c rfl]
  rfl
theorem R_turn {q : IntKind} {e : Nat} {w w' : World} {base : Nat} {ok : Nat → Prop} {v : Value} {xs : List Int} {L : List Nat} (h : Kd.R (Kd.int q) e w base ok v xs) (ht : Turn L w w') (hL : ∀ b ∈ L, b < base) : Kd.R (Kd.int q) e w' base (fun _ => True) v xs :=
  R_of_row (own_move (row_of_R h) fun k hk => ht.block k (own_lt (row_of_R h) k hk) fun hm => by have := hL k hm; have := own_base (row_of_R h) k hk; omega)
theorem R_lt {q : IntKind} {e : Nat} {w : World} {base : Nat} {ok : Nat → Prop} {v : Value} {xs : List Int} (h : Kd.R (Kd.int q) e w base ok v xs) {b : Nat} (hb : b ≤ base) : Kd.R (Kd.int q) e w b (fun _ => True) v xs := by
  have h1 := row_of_R h
  refine R_of_row ⟨h1.1, ?_⟩
  rcases h1.2 with h2 | ⟨g, cap, cur, hv, hg, r⟩
  · exact .inl h2
  · exact .inr ⟨g, cap, cur, hv, Nat.le_trans hb hg, r⟩
/-- A number of a row. -/
theorem R_cell {q : IntKind} {e : Nat} {w : World} {base : Nat} {ok : Nat → Prop} {A : Option Addr} {n c : Nat} {xs : List Int} (h : Kd.R (Kd.int q) e w base ok (.slice A n c) xs) {j : Nat} {k : Int} (hj : xs[j]? = some k) : ∃ ad, A = some ad ∧ w.cell? (ad.add j) = some (.int q k) := by
  obtain ⟨h1, h2, h3⟩ := Kd.R_reads' h
  have hlt : j < xs.length := (List.getElem?_eq_some_iff.1 hj).1
  obtain ⟨ad, cc, hA, _, hrd, hcell⟩ := ReadsRow.get_ h3 0 (j : Int) (by omega) (by omega)
  refine ⟨ad, hA, ?_⟩
  have hr' : cc = [Value.int q (xs.getD (j : Int).toNat 0)] := hrd
  have := hcell 0 _ (by rw [hr']; rfl)
  rw [Int.toNat_natCast, List.getD_eq_getElem?_getD, hj] at this
  have e : j * (Kd.int q).sz + 0 = j := by show j * 1 + 0 = _; omega
  rw [e] at this
  exact this
theorem bools_lit {L : List Nat} {w : World} (hL : ∀ b ∈ L, b < w.heap.size) (e : TypeId) : Bools L (w.alloc (.cells #[.bool true] e)) (some ⟨w.heap.size, 0, none⟩) [true].length [true] := by
  refine ⟨⟨rfl, by decide, fun _ => ⟨_, rfl, fun j p hj => ?_⟩⟩, fun _ ad hA => ?_⟩
  · have hj0 : j = 0 := by have := (List.getElem?_eq_some_iff.1 hj).1; simp at this; exact this
    subst hj0
    have hp : p = true := by simpa using hj.symm
    subst hp
    refine ⟨[.bool true], rfl, rfl, fun i u hi => ?_⟩
    have hi0 : i = 0 := by have := (List.getElem?_eq_some_iff.1 hi).1; simp at this; exact this
    subst hi0
    have hu : u = .bool true := by simpa using hi.symm
    subst hu
    exact cell_of (heap_new w _) rfl
  · obtain rfl := Option.some.inj hA
    exact ⟨fun hm => by have := hL _ hm; simp at this, by simp⟩
theorem Calls_as {w : World} {f : Fp} {S : MS} (h : IsMem w f S) (c : Int) (hc : S.calls = c) : Calls Try.prog 24 #[ptr f] w fun e w' => e = .returned (.int .i64 c) ∧ w = w' := by
  subst hc
  exact Calls_calls h
theorem Store_as {w : World} {f : Fp} {S : MS} (h : IsMem w f S) (i v : Int) (hi : oki i) (hv : okw v) (q : Int) (hq : (S.store i v).1 = q) : Calls Try.prog 25 #[ptr f, .int .i64 i, .int .u64 v] w fun e w' => e = .returned (.int .i64 q) ∧ IsMem w' f (S.store i v).2 ∧ Turn f.list w w' := by
  subst hq
  exact Store_calls h i v hi hv
theorem Flush_as {w : World} {f : Fp} {S : MS} (h : IsMem w f S) (i : Int) (hi : oki i) (q : Int) (hq : (S.flush i).1 = q) : Calls Try.prog 21 #[ptr f, .int .i64 i] w fun e w' => e = .returned (.int .i64 q) ∧ IsMem w' f (S.flush i).2 ∧ Turn f.list w w' := by
  subst hq
  exact Flush_calls h i hi
theorem Fence_as {w : World} {f : Fp} {S : MS} (h : IsMem w f S) (q : Int) (hq : S.fence.1 = q) : Calls Try.prog 22 #[ptr f] w fun e w' => e = .returned (.int .i64 q) ∧ IsMem w' f S.fence.2 ∧ Turn f.list w w' := by
  subst hq
  exact Fence_calls h
end Go.Proofs.Ytifdinoioddnlaa.Mem
