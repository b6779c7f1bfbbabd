/- A memory's calls: Flush, Fence. -/
import Derived.Handy
import Derived.Test.YtifdinoioddnlaaMemD
namespace Go.Proofs.Ytifdinoioddnlaa.Mem
open Go Go.RowKit Go.Proofs.Ytifdinoioddnlaa.ML Go.Proofs.YtifdinoioddnlaaW.PrintWords
set_option linter.unusedVariables false
set_option linter.unusedSimpArgs false
/-- All words turned, each by its place. -/
def MS.mapI (S : MS) (g : Int → Cell → Cell) : MS := { S with ws := S.ws.mapIdx fun j c => g (j : Int) c }
theorem MS.mapI_len (S : MS) (g : Int → Cell → Cell) : (S.mapI g).ws.length = S.ws.length := by simp [MS.mapI]
theorem MS.mapI_at (S : MS) (g : Int → Cell → Cell) {i : Int} (h0 : 0 ≤ i) (h1 : i < S.ws.length) : (S.mapI g).at i = g i (S.at i) := by
  have hi : i.toNat < S.ws.length := by omega
  unfold MS.at MS.mapI
  simp only [List.getD_eq_getElem?_getD, List.getElem?_mapIdx, List.getElem?_eq_getElem hi, Option.map_some, Option.getD_some]
  rw [Int.toNat_of_nonneg h0]
theorem MS.ext {S S' : MS} (hc : S.calls = S'.calls) (ht : S.til = S'.til) (hl : S.ws.length = S'.ws.length) (h : ∀ i : Int, 0 ≤ i → i < S.ws.length → S.at i = S'.at i) : S = S' := by
  obtain ⟨ws, c, t⟩ := S
  obtain ⟨ws', c', t'⟩ := S'
  simp only [] at hc ht hl
  subst hc ht
  have : ws = ws' := by
    refine List.ext_getElem hl fun j h1 h2 => ?_
    have := h (j : Int) (by omega) (by simp only []; omega)
    unfold MS.at at this
    simpa [List.getD_eq_getElem?_getD, h1, h2] using this
  rw [this]
def Cell.flushed (c : Cell) : Cell := ⟨c.sure, c.loose, if c.loose.isSome then c.loose else c.way⟩
/-- The loose words from lo on, before hi, are on the way. -/
def MS.flushTo (S : MS) (lo hi : Int) : MS := S.mapI fun j c => if lo ≤ j ∧ j < hi then c.flushed else c
theorem MS.flushTo_len (S : MS) (lo hi : Int) : (S.flushTo lo hi).ws.length = S.ws.length := S.mapI_len _
theorem MS.flushTo_at (S : MS) (lo hi : Int) {i : Int} (h0 : 0 ≤ i) (h1 : i < S.ws.length) : (S.flushTo lo hi).at i = if lo ≤ i ∧ i < hi then (S.at i).flushed else S.at i := S.mapI_at _ h0 h1
theorem MS.flushTo_none (S : MS) (lo : Int) : S.flushTo lo lo = S :=
  MS.ext rfl rfl (S.flushTo_len lo lo) fun i h0 h1 => by rw [S.flushTo_at lo lo h0 (by rwa [S.flushTo_len] at h1), if_neg (by omega)]
theorem MS.flushTo_in (S : MS) {lo k v : Int} (hlo : 0 ≤ lo) (hk : lo ≤ k) (h1 : k < S.ws.length) (hv : (S.at k).loose = some v) :
    (S.flushTo lo k).set k ⟨((S.flushTo lo k).at k).sure, ((S.flushTo lo k).at k).loose, some v⟩ = S.flushTo lo (k + 1) := by
  have e : (S.flushTo lo k).at k = S.at k := by rw [S.flushTo_at lo k (by omega) h1, if_neg (by omega)]
  rw [e]
  refine MS.ext rfl rfl (by rw [MS.set_len, MS.flushTo_len, MS.flushTo_len]) fun i h2 h3 => ?_
  rw [MS.set_len, MS.flushTo_len] at h3
  rw [MS.set_at _ _ (by omega) (by rw [MS.flushTo_len]; exact h1) i h2, S.flushTo_at _ _ h2 h3, S.flushTo_at _ _ h2 h3]
  by_cases hi : i = k
  · subst hi
    rw [if_pos rfl, if_pos (by omega)]
    simp [Cell.flushed, hv]
  · rw [if_neg hi]
    by_cases hx : lo ≤ i ∧ i < k
    · rw [if_pos hx, if_pos (by omega)]
    · rw [if_neg hx, if_neg (by omega)]
theorem MS.flushTo_out (S : MS) {lo k : Int} (hlo : 0 ≤ lo) (hk : lo ≤ k) (hv : get S.looseM k = none) : S.flushTo lo k = S.flushTo lo (k + 1) := by
  refine MS.ext rfl rfl (by rw [MS.flushTo_len, MS.flushTo_len]) fun i h2 h3 => ?_
  rw [MS.flushTo_len] at h3
  rw [S.flushTo_at _ _ h2 h3, S.flushTo_at _ _ h2 h3]
  by_cases hi : i = k
  · subst hi
    rw [S.get_loose i h2 h3] at hv
    rw [if_neg (by omega), if_pos (by omega)]
    have : ∀ c : Cell, c.loose = none → c = c.flushed := by
      rintro ⟨a, b, c⟩ rfl
      rfl
    exact this _ hv
  · by_cases hx : lo ≤ i ∧ i < k
    · rw [if_pos hx, if_pos (by omega)]
    · rw [if_neg hx, if_neg (by omega)]
theorem MS.flushTo_loose (S : MS) (lo k : Int) : (S.flushTo lo k).looseM = S.looseM := by
  refine ML.ext (pick_sorted _ _) (pick_sorted _ _) fun i => ?_
  by_cases h : 0 ≤ i ∧ i < S.ws.length
  · rw [MS.get_loose _ _ h.1 (by rw [MS.flushTo_len]; exact h.2), MS.get_loose _ _ h.1 h.2, S.flushTo_at _ _ h.1 h.2]
    split <;> rfl
  · rw [MS.get_loose_out _ _ (by rw [MS.flushTo_len]; omega), MS.get_loose_out _ _ (by omega)]
def MS.flush (S : MS) (i : Int) : Int × MS :=
  let r := S.call (S.has i)
  if r.1 = 0 then (0, r.2.flushTo (i - i % 8) (i - i % 8 + 8)) else r
set_option maxHeartbeats 1000000 in
theorem Flush_calls {w : World} {f : Fp} {S : MS} (h : IsMem w f S) (i : Int) (hi : oki i) : Calls Try.prog 21 #[ptr f, .int .i64 i] w fun e w' => e = .returned (.int .i64 (S.flush i).1) ∧ IsMem w' f (S.flush i).2 ∧ Turn f.list w w' := by
  obtain ⟨b, hb⟩ : ∃ b, S.has i = b := ⟨_, rfl⟩
  have hc := call_calls h b
  have ht := there_calls h i hi
  rw [hb] at ht
  unfold MS.flush
  rw [hb]
  have hok := call_ok S b
  have hws := call_ws S b
  generalize hr : S.call b = r at hc hok hws ⊢
  obtain ⟨q, S1⟩ := r
  by_cases k0 : q = 0
  · subst k0
    obtain rfl := hok rfl
    obtain ⟨h0, h1⟩ := (S.has_iff i).1 hb
    have hl := h.ok.len
    obtain ⟨lo, hlo⟩ : ∃ lo, i - i % 8 = lo := ⟨_, rfl⟩
    have hws' : S1.ws.length = S.ws.length := by simp only [] at hws; rw [hws]
    have b1 : 0 ≤ lo := by omega
    have b2 : lo ≤ 4096 := by omega
    rw [hlo]
    have e1 : IntKind.i64.wrap (i - i.tmod 8) = lo := by
      rw [Int.tmod_eq_emod_of_nonneg h0, hlo]
      exact IntWalk.i64_in _ (by omega)
    have e2 : i - i % 8 = lo := hlo
    have e3 : i - i.tmod 8 = lo := by rw [Int.tmod_eq_emod_of_nonneg h0, hlo]
    have HL := Aside0.mk hws'
    have B0 := Aside0.mk h0
    have b0 : i ≤ 4096 := by omega
    clear hb hr hok hws hws' h1 hl hlo
    simp only [if_true]
    go_enter Try.func21, Try.ntmps21
    go_wp2_with (first
      | (go_at_call 28; refine ht.mono ?_; rintro e w' ⟨rfl, rfl⟩)
      | (go_at_call 31; refine hc.mono ?_; rintro e w1 ⟨rfl, h1, t1⟩; have H1 := Aside0.mk h1; have T1 := Aside0.mk t1; clear h1 t1))
    clear e1 e2 e3
    go_loopw [7] (fun x wr => ∃ k : Int, lo ≤ k ∧ k ≤ lo + 8 ∧ x = .int .i64 k ∧ IsMem wr f (S1.flushTo lo k) ∧ Turn f.list w wr) (fun x _ => (lo + 8 - intOf x).toNat)
    case atStart => exact ⟨lo, by omega, by omega, rfl, by rw [MS.flushTo_none]; exact H1.out, T1.out⟩
    case round =>
      obtain ⟨k, k1, k2, rfl, hm, htr⟩ := hrel
      obtain ⟨A, cap, HF, _⟩ := hm.facts
      have c1 := HF.c1
      have c2 := HF.c2
      have HM := Aside0.mk hm
      have TR := Aside0.mk htr
      clear hm htr HF
      by_cases kl : k < lo + 8
      · obtain ⟨gv, hg⟩ : ∃ gv, get (S1.flushTo lo k).looseM k = gv := ⟨_, rfl⟩
        cases gv with
        | none =>
          have HG := Aside0.mk hg
          clear hg
          go_wp2_with (first
            | (at_lookup; refine lookU_none rfl _ _ rfl rfl HM.out.loose k rfl (by unfold oki; omega) HG.out ?_))
          go_roundw
          case rel => exact ⟨k + 1, by omega, by omega, by go_num, by rw [← MS.flushTo_out S1 b1 k1 (by have := HG.out; rwa [MS.flushTo_loose] at this)]; exact HM.out, TR.out⟩
          case measure => simp [intOf]; omega
        | some v =>
          have hg' := hg
          rw [MS.flushTo_loose] at hg'
          have hin : k < S1.ws.length := by
            rcases Int.lt_or_le k S1.ws.length with hx | hx
            · exact hx
            · rw [MS.get_loose_out _ _ (.inr hx)] at hg'; cases hg'
          rw [MS.get_loose _ _ (by omega) hin] at hg'
          have hv : okw v := by
            have hy := HM.out.ok.at k
            rw [S1.flushTo_at _ _ (by omega) hin, if_neg (by omega)] at hy
            exact hy.2.1 v hg'
          have HG := Aside0.mk hg
          have HG' := Aside0.mk hg'
          have HV := Aside0.mk hv
          clear hg hg' hv
          go_wp2_with (first
            | (at_lookup; refine lookU_some rfl _ _ rfl rfl HM.out.loose k rfl (by unfold oki; omega) v HG.out ?_)
            | (at_mapUpdate; refine wp_put (x := ek) mt rfl _ _ _ rfl rfl HM.out.way (by have := MS.way_len (S1.flushTo lo k); have := HM.out.ok.len; omega) k v rfl rfl (oki_wf (by unfold oki; omega)) (okw_wf HV.out) ?_; intro w2 hm2 ht2; obtain ⟨r1, r2⟩ := HM.out.putWay (by omega) (by rw [MS.flushTo_len]; exact hin) HV.out ht2 hm2; rw [MS.flushTo_in S1 b1 k1 hin HG'.out] at r1; have R1 := Aside0.mk r1; have R2 := Aside0.mk (TR.out.trans r2); clear r1 r2 hm2 ht2))
          go_roundw
          case rel => exact ⟨k + 1, by omega, by omega, by go_num, R1.out, R2.out⟩
          case measure => simp [intOf]; omega
      · obtain rfl : k = lo + 8 := by omega
        go_wp2
        go_returns
        exact ⟨rfl, HM.out, TR.out⟩
  · have g0 : (q == 0) = false := by simp [k0]
    have g1 : (q != 0) = true := by simp [k0]
    rw [if_neg k0]
    clear k0 hb hr hok hws
    go_enter Try.func21, Try.ntmps21
    go_wp2_with (first
      | (go_at_call 28; refine ht.mono ?_; rintro e w' ⟨rfl, rfl⟩)
      | (go_at_call 31; refine hc.mono ?_; rintro e w1 ⟨rfl, h1, t1⟩; have H1 := Aside0.mk h1; have T1 := Aside0.mk t1; clear h1 t1))
    go_returns
    exact ⟨rfl, H1.out, T1.out⟩
set_option maxHeartbeats 400000 in
theorem Flush_nil (w : World) (i : Int) : Calls Try.prog 21 #[.pointer none, .int .i64 i] w fun e w' => e = .returned (.int .i64 1) ∧ w = w' := by
  go_enter Try.func21, Try.ntmps21
  go_wp2_with (first
      | (go_at_call 28; refine (there_nil _ _).mono ?_; rintro e w' ⟨rfl, rfl⟩)
      | (go_at_call 31; refine (call_nil _ _).mono ?_; rintro e w' ⟨rfl, rfl⟩))
  go_returns
  exact ⟨rfl, rfl⟩
/-! Fence -/
def Cell.fencedL (c : Cell) : Cell := match c.way with
  | some v => ⟨v, if c.loose = some v then none else c.loose, c.way⟩
  | none => c
def Cell.fenced (c : Cell) : Cell := match c.way with
  | some v => ⟨v, if c.loose = some v then none else c.loose, none⟩
  | none => c
theorem Cell.fencedL_way (c : Cell) : c.fencedL.way = c.way := by unfold Cell.fencedL; split <;> rfl
theorem Cell.fenced_eq (c : Cell) : (⟨c.fencedL.sure, c.fencedL.loose, none⟩ : Cell) = c.fenced := by
  obtain ⟨a, b, d⟩ := c
  cases d <;> rfl
theorem Cell.fencedL_none {c : Cell} (h : c.way = none) : c.fencedL = c := by unfold Cell.fencedL; rw [h]
def MS.fenceTo (S : MS) (left : Int → Bool) : MS := S.mapI fun j c => if left j then c else c.fencedL
theorem MS.fenceTo_len (S : MS) (left : Int → Bool) : (S.fenceTo left).ws.length = S.ws.length := S.mapI_len _
theorem MS.fenceTo_at (S : MS) (left : Int → Bool) {i : Int} (h0 : 0 ≤ i) (h1 : i < S.ws.length) : (S.fenceTo left).at i = if left i then S.at i else (S.at i).fencedL := S.mapI_at _ h0 h1
theorem MS.fenceTo_way (S : MS) (left : Int → Bool) : (S.fenceTo left).wayM = S.wayM := by
  refine ML.ext (pick_sorted _ _) (pick_sorted _ _) fun i => ?_
  by_cases h : 0 ≤ i ∧ i < S.ws.length
  · rw [MS.get_way _ _ h.1 (by rw [MS.fenceTo_len]; exact h.2), MS.get_way _ _ h.1 h.2, S.fenceTo_at _ h.1 h.2]
    split
    · rfl
    · rw [Cell.fencedL_way]
  · rw [MS.get_way_out _ _ (by rw [MS.fenceTo_len]; omega), MS.get_way_out _ _ (by omega)]
theorem MS.fenceTo_start (S : MS) (left : Int → Bool) (h : ∀ i, left i = (get S.wayM i).isSome) : S.fenceTo left = S := by
  refine MS.ext rfl rfl (S.fenceTo_len _) fun i h0 h1 => ?_
  rw [S.fenceTo_len] at h1
  rw [S.fenceTo_at _ h0 h1, h, S.get_way i h0 h1]
  cases hw : (S.at i).way
  · simp [Cell.fencedL_none hw]
  · simp
theorem MS.fenceTo_step (S : MS) (left left' : Int → Bool) {k v : Int} (h0 : 0 ≤ k) (h1 : k < S.ws.length) (hl : left k = true) (hv : (S.at k).way = some v) (hl' : ∀ i, left' i = (left i && !(i == k))) :
    (S.fenceTo left).set k ⟨v, if (S.at k).loose = some v then none else (S.at k).loose, (S.at k).way⟩ = S.fenceTo left' := by
  refine MS.ext rfl rfl (by rw [MS.set_len, MS.fenceTo_len, MS.fenceTo_len]) fun i h2 h3 => ?_
  rw [MS.set_len, MS.fenceTo_len] at h3
  rw [MS.set_at _ _ h0 (by rw [MS.fenceTo_len]; exact h1) i h2, S.fenceTo_at _ h2 h3, S.fenceTo_at _ h2 h3, hl']
  by_cases hi : i = k
  · subst hi
    rw [if_pos rfl]
    simp only [beq_self_eq_true, Bool.not_true, Bool.and_false, Bool.false_eq_true, if_false]
    unfold Cell.fencedL
    rw [hv]
  · rw [if_neg hi]
    have : (i == k) = false := by simp [hi]
    rw [this]
    simp
def MS.fence (S : MS) : Int × MS :=
  let r := S.call true
  if r.1 = 0 then (0, r.2.mapI fun _ c => c.fenced) else r
theorem MS.Ok.mapI {S : MS} (h : S.Ok) {g : Int → Cell → Cell} (hg : ∀ i c, c.ok → (g i c).ok) : (S.mapI g).Ok := by
  refine ⟨by rw [MS.mapI_len]; exact h.len, fun c hc => ?_, h.calls, h.til⟩
  unfold MS.mapI at hc
  obtain ⟨i, hi, rfl⟩ := List.mem_mapIdx.1 hc
  exact hg _ _ (h.cells _ (List.getElem_mem hi))
theorem MS.mapI_sures (S : MS) (g : Int → Cell → Cell) (hg : ∀ i c, (g i c).sure = c.sure) : (S.mapI g).sures = S.sures := by
  unfold MS.sures MS.mapI
  refine List.ext_getElem? fun j => ?_
  simp only [List.getElem?_map, List.getElem?_mapIdx, Option.map_map]
  cases S.ws[j]? with
  | none => rfl
  | some c => simp [hg]
theorem MS.mapI_loose (S : MS) (g : Int → Cell → Cell) (hg : ∀ i c, (g i c).loose = c.loose) : (S.mapI g).looseM = S.looseM := by
  refine ML.ext (pick_sorted _ _) (pick_sorted _ _) fun i => ?_
  by_cases h : 0 ≤ i ∧ i < S.ws.length
  · rw [MS.get_loose _ _ h.1 (by rw [MS.mapI_len]; exact h.2), MS.get_loose _ _ h.1 h.2, S.mapI_at _ h.1 h.2, hg]
  · rw [MS.get_loose_out _ _ (by rw [MS.mapI_len]; omega), MS.get_loose_out _ _ (by omega)]
theorem MS.mapI_way (S : MS) (g : Int → Cell → Cell) (hg : ∀ i c, (g i c).way = c.way) : (S.mapI g).wayM = S.wayM := by
  refine ML.ext (pick_sorted _ _) (pick_sorted _ _) fun i => ?_
  by_cases h : 0 ≤ i ∧ i < S.ws.length
  · rw [MS.get_way _ _ h.1 (by rw [MS.mapI_len]; exact h.2), MS.get_way _ _ h.1 h.2, S.mapI_at _ h.1 h.2, hg]
  · rw [MS.get_way_out _ _ (by rw [MS.mapI_len]; omega), MS.get_way_out _ _ (by omega)]
theorem pick_none {g : Cell → Option Int} : ∀ (r : List Cell) (i : Int), (∀ c ∈ r, g c = none) → pick g i r = []
  | [], _, _ => rfl
  | c :: r, i, h => by rw [pick, h c (by simp)]; exact pick_none r (i + 1) fun d hd => h d (by simp [hd])
theorem IsMem.clearWay {w w' : World} {f : Fp} {S : MS} (h : IsMem w f S) (ht : w.mapTurned w' f.bw) (hm : IsM ek 3 w' f.bw []) : IsMem w' f (S.mapI fun _ c => ⟨c.sure, c.loose, none⟩) ∧ Turn f.list w w' := by
  have r := h.turnWay (S' := S.mapI fun _ c => ⟨c.sure, c.loose, none⟩) ht (by
    have : (S.mapI fun _ c => ⟨c.sure, c.loose, none⟩).wayM = [] := pick_none _ _ fun c hc => by
      unfold MS.mapI at hc
      obtain ⟨i, hi, rfl⟩ := List.mem_mapIdx.1 hc
      rfl
    rw [this]; exact hm) (h.ok.mapI fun _ c hc => ⟨hc.1, hc.2.1, (fun _ e => by cases e)⟩) rfl rfl (MS.mapI_len _ _) (MS.mapI_sures _ _ fun _ _ => rfl) (MS.mapI_loose _ _ fun _ _ => rfl)
  exact ⟨r.1, r.2.of_mem (.inr (.inr (.inr rfl)))⟩
theorem IsMem.clearLoose {w w' : World} {f : Fp} {S : MS} (h : IsMem w f S) (ht : w.mapTurned w' f.bl) (hm : IsM ek 3 w' f.bl []) : IsMem w' f (S.mapI fun _ c => ⟨c.sure, none, c.way⟩) ∧ Turn f.list w w' := by
  have r := h.turnLoose (S' := S.mapI fun _ c => ⟨c.sure, none, c.way⟩) ht (by
    have : (S.mapI fun _ c => ⟨c.sure, none, c.way⟩).looseM = [] := pick_none _ _ fun c hc => by
      unfold MS.mapI at hc
      obtain ⟨i, hi, rfl⟩ := List.mem_mapIdx.1 hc
      rfl
    rw [this]; exact hm) (h.ok.mapI fun _ c hc => ⟨hc.1, (fun _ e => by cases e), hc.2.2⟩) rfl rfl (MS.mapI_len _ _) (MS.mapI_sures _ _ fun _ _ => rfl) (MS.mapI_way _ _ fun _ _ => rfl)
  exact ⟨r.1, r.2.of_mem (.inr (.inr (.inl rfl)))⟩
abbrev IsRange (w : World) (b r n : Nat) (m : List (Int × Int)) (left : Lit → Bool) (cnt : Nat) : Prop := w.ranges Try.prog 3 (plainElem (H := Unit) Try.prog 31) b r n (ML.D ek m) left cnt
theorem range_key {left left' : Lit → Bool} {x : Int} (h : left' = fun z => left z && !z.sameKey (.int .i64 x)) (i : Int) : left' (.int .i64 i) = (left (.int .i64 i) && !(i == x)) := by
  subst h
  simp [Lit.sameKey, Bool.beq_eq_decide_eq]
theorem range_get {m : List (Int × Int)} {x c : Int} (h : ∀ zd, (ML.D ek m).atKey (.int .i64 x) zd = .lit (.int .u64 c)) : get m x = some c := by
  have h0 := h (.lit (.int .u64 0))
  have h1 := h (.lit (.int .u64 1))
  have e0 := D_get ek m x 0
  have e1 := D_get ek m x 1
  cases hg : get m x with
  | none =>
    rw [hg] at e0 e1
    have k0 := e0.symm.trans h0
    have k1 := e1.symm.trans h1
    simp only [Option.getD_none] at k0 k1
    injection k0 with k0
    injection k1 with k1
    injection k0 with _ k0
    injection k1 with _ k1
    omega
  | some v =>
    rw [hg] at e0
    have k0 := e0.symm.trans h0
    simp only [Option.getD_some] at k0
    injection k0 with k0
    injection k0 with _ k0
    rw [k0]
theorem Turn.grown {b : Nat} {w w' : World} (h : Turn [b] w w') : w.grownBy w' (some b) := ⟨h.os, h.tape, h.output, h.size, fun k hk hn => h.block k hk (by simpa using hn)⟩
set_option maxHeartbeats 2000000 in
theorem Fence_calls {w : World} {f : Fp} {S : MS} (h : IsMem w f S) : Calls Try.prog 22 #[ptr f] w fun e w' => e = .returned (.int .i64 S.fence.1) ∧ IsMem w' f S.fence.2 ∧ Turn f.list w w' := by
  have hc := call_calls h true
  unfold MS.fence
  generalize hr : S.call true = r at hc ⊢
  obtain ⟨q, S1⟩ := r
  by_cases k0 : q = 0
  · subst k0
    clear hr
    simp only [if_true]
    go_enter Try.func22, Try.ntmps22
    go_wp2_with (first
      | (go_at_call 31; refine hc.mono ?_; rintro e w1 ⟨rfl, h1, t1⟩; obtain ⟨A, cap, HF, _⟩ := h1.facts; have c2 := HF.c2; have H1 := Aside0.mk h1; have T1 := Aside0.mk t1; clear h1 t1 HF)
      | (at_range; refine wpList_range_own _ rfl _ 55 rfl 3 31 mt.keyed mt.ht _ f.bw _ _ rfl H1.out.way ?_; intro w2 hrg0 hg0 hs0))
    obtain ⟨r, hrr⟩ : ∃ r, w1.heap.size = r := ⟨_, rfl⟩
    have hlts : ∀ b ∈ f.list, b < r := by rw [← hrr]; exact H1.out.lts
    rw [hrr] at hrg0 ⊢
    go_frame
    have RG := Aside0.mk hrg0
    have G0 := Aside0.mk hg0
    have HL := Aside0.mk hlts
    have HR := Aside0.mk hrr
    clear hrg0 hg0 hs0 hlts hrr c2
    go_loopw [] (fun wr => ∃ (left : Lit → Bool) (cnt : Nat), IsRange wr f.bw r S1.wayM.length S1.wayM left cnt ∧ IsMem wr f (S1.fenceTo fun j => left (.int .i64 j)) ∧ Turn f.list w wr) (fun wr => wr.rangeLeft f.bw r)
    case atStart =>
      refine ⟨_, _, RG.out, ?_, T1.out.trans (Turn.of_grown0 G0.out _)⟩
      rw [MS.fenceTo_start _ _ fun i => D_has ek S1.wayM i]
      exact H1.out.kept (L := []) (Turn.of_grown0 G0.out _) (by simp)
    case round =>
      obtain ⟨left, cnt, hrg, hm, htr⟩ := hrel
      have HG := Aside0.mk hrg
      have HM := Aside0.mk hm
      have TR := Aside0.mk htr
      clear hrg hm htr
      go_wp2_with (first
        | (at_next; refine wpList_next_ranges_ii _ rfl _ rfl 3 31 .i64 .u64 mt.keyed mt.hk Try.underlying31 f.bw r _ _ _ _ rfl HG.out ?_ ?_))
      · intro hc0 hl0
        obtain ⟨A, cap, HF, _⟩ := HM.out.facts
        have c2 := HF.c2
        have HE := Aside0.mk hl0
        clear HF hl0 hc0
        go_wp2_with (first
          | ((with_reducible refine gate_builtin (b := .clear) (xs := #[.tmp 44]) rfl ?_); refine wp_clear (x := ek) mt rfl _ rfl rfl HM.out.way ?_; intro w3 hm3 ht3; obtain ⟨r1, r2⟩ := HM.out.clearWay ht3 hm3; have R1 := Aside0.mk r1; have R2 := Aside0.mk (TR.out.trans r2); clear hm3 ht3 r1 r2))
        go_returns
        refine ⟨rfl, ?_, R2.out⟩
        have e : ((S1.fenceTo fun j => left (.int .i64 j)).mapI fun _ c => ⟨c.sure, c.loose, none⟩) = S1.mapI fun _ c => c.fenced := by
          refine MS.ext rfl rfl (by simp only [MS.mapI_len, MS.fenceTo_len]) fun i h0 h1 => ?_
          rw [MS.mapI_len, MS.fenceTo_len] at h1
          rw [MS.mapI_at _ _ h0 (by rw [MS.fenceTo_len]; exact h1), S1.fenceTo_at _ h0 h1, MS.mapI_at _ _ h0 h1, HE.out]
          exact Cell.fenced_eq _
        rw [e] at R1
        exact R1.out
      · intro x c w2 cnt2 hwx hwc hlx hat hrg2 hlt hg2 hs2 hen
        have hget := range_get hat
        have hin : 0 ≤ x ∧ x < S1.ws.length := by
          by_cases hx : 0 ≤ x ∧ x < S1.ws.length
          · exact hx
          · rw [MS.get_way_out _ _ (by omega)] at hget; cases hget
        rw [MS.get_way _ _ hin.1 hin.2] at hget
        have hat' := S1.fenceTo_at (fun j => left (.int .i64 j)) hin.1 hin.2
        rw [if_pos hlx] at hat'
        have hm2 := HM.out.kept (L := [r]) (Turn.of_grown hg2) (fun b hb => by have := HL.out b hb; simp; omega)
        have ht2 : Turn f.list w w2 := by
          have q1 : Turn (f.list ++ [r]) w w2 := (TR.out.mono fun y hy => .inl (by simp [hy])).trans ((Turn.of_grown hg2).mono fun y hy => .inl (by simp at hy ⊢; exact .inr hy))
          refine q1.mono fun y hy => ?_
          rcases List.mem_append.1 hy with hy | hy
          · exact .inl hy
          · right
            simp at hy
            have := T1.out.size
            have := HR.out
            omega
        have hcw : okw c := (HM.out.ok.at x).2.2 c (by rw [hat']; exact hget)
        obtain ⟨A, cap, HF, hrow⟩ := hm2.facts
        obtain ⟨hA, hcell, hfz⟩ := hrow.cell x hin.1 (by rw [MS.fenceTo_len]; exact hin.2)
        subst hA
        have c0 := HF.c0
        rw [MS.fenceTo_len] at c0
        obtain ⟨h3, t3⟩ := hm2.setSure x hin.1 (by rw [MS.fenceTo_len]; exact hin.2) c hcw
        have hbr : some f.bs ≠ some r := by have := HL.out f.bs (by simp [Fp.list]); simp; omega
        have hbw : some f.bw ≠ some f.bs := by
          obtain ⟨_, cur, hcu, _⟩ := hrow.2.2.2 (by rw [MS.fenceTo_len]; omega)
          have := hm2.way.ne_cells hcu
          simp
          omega
        have hrg3 : IsRange (w2.setCell ⟨f.bs, x.toNat, none⟩ (.int .u64 c)) f.bw r S1.wayM.length S1.wayM _ cnt2 := World.ranges.kept hrg2 t3.grown hbw.symm.symm (Ne.symm hbr)
        obtain ⟨A3, cap3, F3, _⟩ := h3.facts
        have c1 := F3.c1
        rw [hat'] at h3
        obtain ⟨u, hu⟩ : ∃ u, (get ((S1.fenceTo fun j => left (.int .i64 j)).set x ⟨c, (S1.at x).loose, (S1.at x).way⟩).looseM x).getD 0 = u := ⟨_, rfl⟩
        have hu' := hu
        rw [MS.set_get_loose _ _ hin.1 (by rw [MS.fenceTo_len]; exact hin.2), if_pos rfl] at hu'
        have hx : oki x := H1.out.ok.idx hin.1 hin.2
        have T3 := Aside0.mk (ht2.trans (t3.of_mem (f := f) (.inr (.inl rfl))))
        have R3 := Aside0.mk hrg3
        have H3 := Aside0.mk h3
        have HU := Aside0.mk hu
        have HU' := Aside0.mk hu'
        have HX := Aside0.mk hx
        have HN := Aside0.mk hin
        have HW := Aside0.mk hget
        have HLX := Aside0.mk hlx
        have HT := Aside0.mk hlt
        have HBR := Aside0.mk (show ∀ b ∈ f.list, b ≠ f.bw → some f.bw ≠ some b ∧ some r ≠ some b from fun b hb hn => ⟨by simp; omega, by have := HL.out b hb; simp; omega⟩)
        have hx0 : 0 ≤ x := hin.1
        have hx1 : x < S1.ws.length := hin.2
        clear hu hu' hx hin hget hlx hlt h3 hrg3 t3 ht2 hm2 hrg2 HF hrow F3 hat hat' hg2 hs2 hwx hwc hcw hbr hbw
        by_cases hcu : u = c
        · have g0 : (u == c) = true := by simp [hcu]
          go_wp2_with (first
            | (at_lookup; refine lookU_as rfl _ _ rfl rfl H3.out.loose x rfl HX.out u HU.out ?_)
            | ((with_reducible refine gate_builtin (b := .delete) (xs := #[.tmp 39, .tmp 40]) rfl ?_); refine wp_del (x := ek) mt rfl _ _ rfl rfl H3.out.loose x rfl (oki_wf HX.out) ?_; intro w4 hm4 ht4;
               obtain ⟨h4, t4⟩ := H3.out.delLoose HN.out.1 (by rw [MS.set_len, MS.fenceTo_len]; exact HN.out.2) ht4 hm4; rw [MS.set_set, MS.set_at_same _ _ HN.out.1 (by rw [MS.fenceTo_len]; exact HN.out.2)] at h4;
               have H4 := Aside0.mk h4; have T4 := Aside0.mk (T3.out.trans t4); have R4 := Aside0.mk (World.ranges.kept R3.out (turned_of ht4) (HBR.out f.bl (by simp [Fp.list]) H1.out.ne).1 (HBR.out f.bl (by simp [Fp.list]) H1.out.ne).2); clear h4 t4 hm4 ht4; go_frame))
          go_roundw
          case rel =>
            refine ⟨_, cnt2, R4.out, ?_, T4.out⟩
            have hs := MS.fenceTo_step S1 (fun j => left (.int .i64 j)) (fun j => (left (.int .i64 j) && !(Lit.int .i64 j).sameKey (.int .i64 x))) HN.out.1 HN.out.2 HLX.out HW.out (fun i => range_key rfl i)
            rw [← hs]
            have e : (if (S1.at x).loose = some c then none else (S1.at x).loose) = none := by
              have := HU'.out
              cases hl : (S1.at x).loose with
              | none => rfl
              | some y => rw [hl] at this; simp at this; subst this; rw [hcu]; simp
            rw [e]
            exact H4.out
          case measure => rw [R4.out.left_eq, HG.out.left_eq]; exact HT.out
        · have g0 : (u == c) = false := by simp [hcu]
          go_wp2_with (first
            | (at_lookup; refine lookU_as rfl _ _ rfl rfl H3.out.loose x rfl HX.out u HU.out ?_))
          go_roundw
          case rel =>
            refine ⟨_, cnt2, R3.out, ?_, T3.out⟩
            have hs := MS.fenceTo_step S1 (fun j => left (.int .i64 j)) (fun j => (left (.int .i64 j) && !(Lit.int .i64 j).sameKey (.int .i64 x))) HN.out.1 HN.out.2 HLX.out HW.out (fun i => range_key rfl i)
            rw [← hs]
            have e : (if (S1.at x).loose = some c then none else (S1.at x).loose) = (S1.at x).loose := by
              have := HU'.out
              cases hl : (S1.at x).loose with
              | none => rfl
              | some y => rw [hl] at this; simp at this; subst this; rw [if_neg (by simp; exact hcu)]
            rw [e]
            exact H3.out
          case measure => rw [R3.out.left_eq, HG.out.left_eq]; exact HT.out
  · have g0 : (q == 0) = false := by simp [k0]
    have g1 : (q != 0) = true := by simp [k0]
    rw [if_neg k0]
    clear k0 hr
    go_enter Try.func22, Try.ntmps22
    go_wp2_with (first
      | (go_at_call 31; refine hc.mono ?_; rintro e w1 ⟨rfl, h1, t1⟩; have H1 := Aside0.mk h1; have T1 := Aside0.mk t1; clear h1 t1))
    go_returns
    exact ⟨rfl, H1.out, T1.out⟩
set_option maxHeartbeats 400000 in
theorem Fence_nil (w : World) : Calls Try.prog 22 #[.pointer none] w fun e w' => e = .returned (.int .i64 1) ∧ w = w' := by
  go_enter Try.func22, Try.ntmps22
  go_wp2_with (first
      | (go_at_call 31; refine (call_nil _ _).mono ?_; rintro e w' ⟨rfl, rfl⟩))
  go_returns
  exact ⟨rfl, rfl⟩
end Go.Proofs.Ytifdinoioddnlaa.Mem
