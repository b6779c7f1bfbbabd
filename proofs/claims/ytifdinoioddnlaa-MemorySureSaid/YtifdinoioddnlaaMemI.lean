/- A memory's calls: Crash. -/
import Derived.Handy
import Derived.StillTailTactics
import Derived.LoopN
import Derived.Test.YtifdinoioddnlaaMemH
namespace Go.Proofs.Ytifdinoioddnlaa.Mem
open Go Go.RowKit Go.Proofs.Ytifdinoioddnlaa.ML Go.Proofs.YtifdinoioddnlaaW.PrintWords Go.Proofs.YtifdinoioddnlaaW.PrintLast Go.Proofs.YtifdinoioddnlaaW.PrintMore
set_option linter.unusedVariables false
set_option linter.unusedSimpArgs false
/-- A list of truths that is read, none of it among these blocks. -/
def Bools (L : List Nat) (w : World) (A : Option Addr) (n : Nat) (xs : List Bool) : Prop := Kd.C Kd.bool w A n xs ∧ (0 < n → ∀ ad, A = some ad → ad.block ∉ L ∧ ad.block < w.heap.size)
theorem Bools.kept {L : List Nat} {w w' : World} {A : Option Addr} {n : Nat} {xs : List Bool} (h : Bools L w A n xs) (ht : Turn L w w') : Bools L w' A n xs := by
  obtain ⟨⟨h1, h2, h3⟩, h4⟩ := h
  refine ⟨⟨h1, h2, fun h0 => ?_⟩, fun h0 ad hA => ⟨(h4 h0 ad hA).1, Nat.lt_of_lt_of_le (h4 h0 ad hA).2 ht.size⟩⟩
  obtain ⟨ad, hA, h5⟩ := h3 h0
  refine ⟨ad, hA, fun j p hj => ?_⟩
  obtain ⟨c, c1, c2, c3⟩ := h5 j p hj
  refine ⟨c, c1, c2, fun i u hi => ?_⟩
  rw [← c3 i u hi]
  obtain ⟨k1, k2⟩ := h4 h0 ad hA
  have hb : (ad.add (j * Kd.bool.sz + i)).block = ad.block := by unfold Addr.add; split <;> rfl
  exact World.cell?_of_block (w := w) (by rw [hb]; exact ht.block _ k2 k1)
theorem Bools.at {L : List Nat} {w : World} {A : Option Addr} {n : Nat} {xs : List Bool} (h : Bools L w A n xs) (i : Int) (h0 : 0 ≤ i) (h1 : i < n) : ∃ ad, A = some ad ∧ w.cell? (ad.add i.toNat) = some (.bool (xs.getD i.toNat false)) := by
  obtain ⟨ad, c, hA, hl, hr, hc⟩ := ReadsRow.get_ h.1 false i h0 h1
  refine ⟨ad, hA, ?_⟩
  have hr' : c = [Value.bool (xs.getD i.toNat false)] := hr
  subst hr'
  have := hc 0 _ rfl
  have e : i.toNat * Kd.bool.sz + 0 = i.toNat := by show i.toNat * 1 + 0 = _; omega
  rwa [e] at this
theorem MS.keys_mem (S : MS) (k : Int) : k ∈ S.keys ↔ 0 ≤ k ∧ k < S.ws.length ∧ ∃ v, (S.at k).loose = some v := by
  unfold MS.keys
  rw [List.mem_map]
  constructor
  · rintro ⟨⟨a, v⟩, hm, rfl⟩
    have h1 := pick_lo (g := Cell.loose) S.ws 0 _ hm
    have h2 := get_of_mem (pick_sorted _ _) hm
    simp only [] at h1 ⊢
    refine ⟨h1.1, by omega, v, ?_⟩
    rw [← S.get_loose a h1.1 (by omega)]
    exact h2
  · rintro ⟨h0, h1, v, hv⟩
    rw [← S.get_loose k h0 h1] at hv
    exact ⟨(k, v), get_some_mem hv, rfl⟩
/-- How far a crash has come. -/
structure CrashTo (S : MS) (keep : List Bool) (j : Nat) (S' : MS) : Prop where
  calls : S'.calls = S.calls
  til : S'.til = S.til
  len : S'.ws.length = S.ws.length
  cell : ∀ i : Int, 0 ≤ i → i < S.ws.length → ∃ x, S'.at i = ⟨x, (S.at i).loose, (S.at i).way⟩ ∧ (x = (S.at i).sure ∨ x = (S.at i).now) ∧ (keep = [] → x = (S.at i).sure) ∧ (keep = [true] → i ∈ S.keys.take j → x = (S.at i).now)
theorem CrashTo.start (S : MS) (keep : List Bool) : CrashTo S keep 0 S :=
  ⟨rfl, rfl, rfl, fun i h0 h1 => ⟨(S.at i).sure, rfl, .inl rfl, fun _ => rfl, fun _ h => by simp at h⟩⟩
theorem CrashTo.skip {S S' : MS} {keep : List Bool} {j : Nat} (h : CrashTo S keep j S') (hk : keep ≠ [true]) : CrashTo S keep (j + 1) S' :=
  ⟨h.calls, h.til, h.len, fun i h0 h1 => by obtain ⟨x, a, b, c, d⟩ := h.cell i h0 h1; exact ⟨x, a, b, c, fun e => absurd e hk⟩⟩
theorem CrashTo.loose {S S' : MS} {keep : List Bool} {j : Nat} (h : CrashTo S keep j S') {i : Int} (h0 : 0 ≤ i) (h1 : i < S.ws.length) : (S'.at i).loose = (S.at i).loose := by
  obtain ⟨x, a, _⟩ := h.cell i h0 h1
  rw [a]
theorem CrashTo.store {S S' : MS} {keep : List Bool} {j : Nat} (h : CrashTo S keep j S') {k v : Int} (hk : S.keys[j]? = some k) (h0 : 0 ≤ k) (h1 : k < S.ws.length) (hv : (S.at k).loose = some v) (hne : keep ≠ []) :
    CrashTo S keep (j + 1) (S'.set k ⟨v, (S'.at k).loose, (S'.at k).way⟩) := by
  refine ⟨h.calls, h.til, by rw [MS.set_len]; exact h.len, fun i i0 i1 => ?_⟩
  have hl := h.len
  rw [MS.set_at _ _ h0 (by omega) i i0]
  by_cases hi : i = k
  · subst hi
    rw [if_pos rfl]
    obtain ⟨x, a, _⟩ := h.cell i i0 i1
    have hnow : v = (S.at i).now := by simp [Cell.now, hv]
    exact ⟨v, by rw [a], .inr hnow, fun e => absurd e hne, fun _ _ => hnow⟩
  · rw [if_neg hi]
    obtain ⟨x, a, b, c, d⟩ := h.cell i i0 i1
    refine ⟨x, a, b, c, fun e hm => d e ?_⟩
    rw [List.take_add_one, hk] at hm
    simp at hm
    rcases hm with hm | hm
    · exact hm
    · exact absurd hm hi
/-- Behind a crash. -/
structure Crashed (S : MS) (keep : List Bool) (S' : MS) : Prop where
  calls : S'.calls = S.calls
  til : S'.til = -1
  len : S'.ws.length = S.ws.length
  cell : ∀ i : Int, 0 ≤ i → i < S.ws.length → ∃ x, S'.at i = ⟨x, none, none⟩ ∧ (x = (S.at i).sure ∨ x = (S.at i).now) ∧ (keep = [] → x = (S.at i).sure) ∧ (keep = [true] → x = (S.at i).now)
def MS.wiped (S : MS) : MS := { (S.mapI fun _ c => ⟨c.sure, none, none⟩) with til := -1 }
theorem CrashTo.over {S S' : MS} {keep : List Bool} (h : CrashTo S keep S.keys.length S') : Crashed S keep S'.wiped := by
  refine ⟨h.calls, rfl, by rw [MS.wiped]; simp only []; rw [MS.mapI_len]; exact h.len, fun i h0 h1 => ?_⟩
  have hl := h.len
  obtain ⟨x, a, b, c, d⟩ := h.cell i h0 h1
  refine ⟨x, ?_, b, c, fun e => ?_⟩
  · have : S'.wiped.at i = (S'.mapI fun _ c => ⟨c.sure, none, none⟩).at i := rfl
    rw [this, MS.mapI_at _ _ h0 (by omega), a]
  · by_cases hm : i ∈ S.keys
    · exact d e (by rw [List.take_length]; exact hm)
    · have : (S.at i).loose = none := by
        cases hv : (S.at i).loose with
        | none => rfl
        | some v => exact absurd ((S.keys_mem i).2 ⟨h0, h1, v, hv⟩) hm
      rcases b with b | b
      · rw [b, Cell.now, this]; rfl
      · exact b
theorem oki_til : oki (-1) := by unfold oki; omega
theorem keys_oki {S : MS} (h : S.Ok) {k : Int} (hk : k ∈ S.keys) : 0 ≤ k ∧ k < S.ws.length ∧ k < 4096 := by
  obtain ⟨h0, h1, _⟩ := (S.keys_mem k).1 hk
  have := h.len
  exact ⟨h0, h1, by omega⟩
set_option maxHeartbeats 4000000 in
theorem Crash_calls {w : World} {f : Fp} {S : MS} (h : IsMem w f S) (KA : Option Addr) (kc : Nat) (keep : List Bool) (hk : Bools f.list w KA keep.length keep) (hkl : keep.length ≤ 140737488355328) :
    Calls Try.prog 12 #[ptr f, .slice KA keep.length kc] w fun e w' => e = .returned (.tuple #[]) ∧ (∃ S', IsMem w' f S' ∧ Crashed S keep S') ∧ Turn f.list w w' := by
  have hc := Loose_calls h
  have HC := Aside0.mk hc
  have H := Aside0.mk h
  have HK := Aside0.mk hk
  have hkl' : keep.length ≤ S.ws.length + 140737488355328 := by omega
  have hn : S.keys.length ≤ 4096 := by have := S.loose_len; have := h.ok.len; simp [MS.keys]; omega
  clear hc h hk
  go_enter Try.func12, Try.ntmps12
  go_wp2_with (first
    | (go_at_call 17; refine HC.out.mono ?_; rintro e w1 ⟨v, rfl, hR, hb⟩; obtain ⟨LA, lc, rfl⟩ := Kd.R_slice hR; have HR := Aside0.mk hR; have HB := Aside0.mk hb; clear hR hb))
  go_loopw [9] (fun x wr => ∃ (j : Nat) (S' : MS), j ≤ S.keys.length ∧ x = .int .i64 (j : Int) ∧ IsMem wr f S' ∧ CrashTo S keep j S' ∧ Turn f.list w1 wr) (fun x _ => S.keys.length - (intOf x).toNat)
  case atStart => exact ⟨0, S, by omega, rfl, H.out.below HB.out, CrashTo.start S keep, Turn.refl _ _⟩
  case round =>
    obtain ⟨j, S', hj, rfl, hm, hct, htr⟩ := hrel
    have HM := Aside0.mk hm
    have HT := Aside0.mk hct
    have TR := Aside0.mk htr
    clear hm hct htr
    by_cases hlt : j < S.keys.length
    · obtain ⟨k, hkj⟩ : ∃ k, S.keys[j]? = some k := ⟨_, List.getElem?_eq_getElem hlt⟩
      have hmem : k ∈ S.keys := List.mem_of_getElem? hkj
      obtain ⟨q0, q1, q2⟩ := keys_oki H.out.ok hmem
      obtain ⟨_, _, v, hv⟩ := (S.keys_mem k).1 hmem
      have hl := HT.out.len
      have hkd : S.keys.getD j 0 = k := by rw [List.getD_eq_getElem?_getD, hkj]; rfl
      obtain ⟨ad, c, hLA, _, hrd, hcell⟩ := ReadsRow.get_ (Kd.R_reads' HR.out).2.2 0 (j : Int) (by omega) (by omega)
      have hLb : ad.block ∉ f.list ∧ ad.block < w1.heap.size := by
        rcases (row_of_R HR.out).2 with ⟨h, _⟩ | ⟨g, cap', cur, hvv, hbg, hh, _⟩
        · rw [hLA] at h; cases h
        · rw [hLA] at hvv
          injection hvv with hvv
          injection hvv with hvv
          subst hvv
          refine ⟨fun hm => ?_, (Array.getElem?_eq_some_iff.1 hh).1⟩
          have h1 := H.out.lts _ hm
          simp only [] at h1
          omega
      subst hLA
      have hki : wr.cell? (ad.add j) = some (.int .i64 k) := by
        have hr' : c = [Value.int .i64 (S.keys.getD (j : Int).toNat 0)] := hrd
        subst hr'
        have := hcell 0 _ rfl
        rw [Int.toNat_natCast, hkd] at this
        have e : j * (Kd.int .i64).sz + 0 = j := by show j * 1 + 0 = _; omega
        rw [e] at this
        rw [← this]
        have hb : (ad.add j).block = ad.block := by unfold Addr.add; split <;> rfl
        exact World.cell?_of_block (w := w1) (by rw [hb]; exact TR.out.block _ hLb.2 hLb.1)
      have hgl : get S'.looseM k = some v := by rw [MS.get_loose _ _ q0 (by omega), HT.out.loose q0 q1]; exact hv
      have HGL := Aside0.mk hgl
      have HKJ := Aside0.mk hkj
      have HV := Aside0.mk hv
      have HQ := Aside0.mk hl
      have KB := Aside0.mk ((HK.out.kept (Turn.of_below HB.out _)).kept TR.out)
      have hj0 : (0 : Int) ≤ (j : Int) := by omega
      have hj1 : (j : Int) < S.keys.length := by omega
      clear hgl hkj hv hrd hcell hLb hkd hmem hlt hl
      by_cases hk0 : 0 < keep.length
      · have g0 : decide (0 < (keep.length : Int)) = true := decide_eq_true (by omega)
        have e0 : (j : Int).tmod keep.length = j % keep.length := Int.tmod_eq_emod_of_nonneg (by omega)
        obtain ⟨i, hi⟩ : ∃ i : Int, (j : Int) % keep.length = i := ⟨_, rfl⟩
        have i0 : 0 ≤ i := by rw [← hi]; exact Int.emod_nonneg _ (by omega)
        have i1 : i < keep.length := by rw [← hi]; exact Int.emod_lt_of_pos _ (by omega)
        obtain ⟨kd, hKA, hcell⟩ := KB.out.at i i0 i1
        subst hKA
        obtain ⟨b, hb⟩ : ∃ b, keep.getD i.toNat false = b := ⟨_, rfl⟩
        rw [hb] at hcell
        rw [hi] at e0
        have hne : keep ≠ [] := by intro e; rw [e] at hk0; simp at hk0
        have HNE := Aside0.mk hne
        have HI := Aside0.mk hi
        have HBb := Aside0.mk hb
        clear hi hb hk0 hne
        cases b
        · have hnt : keep ≠ [true] := by
            intro e
            have := HBb.out
            rw [e] at i1 this
            have : i = 0 := by simp at i1; omega
            subst this
            simp at *
          have HNT := Aside0.mk hnt
          clear hnt
          go_wp2
          go_roundw
          case rel => exact ⟨j + 1, S', by omega, by go_num, HM.out, HT.out.skip HNT.out, TR.out⟩
          case measure => simp [intOf]; omega
        · obtain ⟨A, cap, HF, hrow⟩ := HM.out.facts
          obtain ⟨hA, hsc, hsf⟩ := hrow.cell k q0 (by rw [HQ.out]; exact q1)
          subst hA
          have c0 := HF.c0
          have c1 := HF.c1
          rw [HQ.out] at c0
          have hlook : ∀ n, (Instr.lookup 55 (.map (some f.bl)) (.int .i64 k) false).run Try.prog (wr.drewN n) = .ok (.int .u64 v) (wr.drewN n) := fun n => by
            have := run_look (x := ek) (w := wr.drewN n) mt (IsM.block HM.out.loose rfl) k (oki_wf (by unfold oki; omega))
            rw [HGL.out] at this
            exact this
          have hlook1 : (Instr.lookup 55 (.map (some f.bl)) (.int .i64 k) false).run Try.prog wr.drew = .ok (.int .u64 v) wr.drew := hlook 1
          clear hlook
          clear HF hrow
          go_wp2
          go_still_tail 12, (by kernel_rfl)
          have hmd := HM.out.kept (Turn.drew wr []) (by simp)
          have hbd : Turn f.list w1 wr.drew := TR.out.trans (Turn.drew wr _)
          have hv0 : okw v := (H.out.ok.at k).2.1 v HV.out
          obtain ⟨r1, r2⟩ := hmd.setSure k q0 (by rw [HQ.out]; exact q1) v hv0
          have hsf' : wr.drew.frozen? ⟨f.bs, k.toNat, none⟩ = false := hsf
          have hsc' : wr.drew.cell? ⟨f.bs, k.toNat, none⟩ = some (.int .u64 (S'.at k).sure) := hsc
          have R1 := Aside0.mk r1
          have R2 := Aside0.mk (hbd.trans (r2.of_mem (.inr (.inl rfl))))
          clear r1 r2 hmd hbd hv0 hlook1 hsc hsf hki hcell c0 c1
          change wpList _ _ _ _ _ wr.drew
          generalize wr.drew = w2 at hsf' hsc' R1 R2 ⊢
          go_wp2
          go_roundw
          case rel => exact ⟨j + 1, _, by omega, by go_num, R1.out, HT.out.store HKJ.out q0 q1 HV.out HNE.out, R2.out⟩
          case measure => simp [intOf]; omega
      · have g0 : decide (0 < (keep.length : Int)) = false := decide_eq_false (by omega)
        have hnt : keep ≠ [true] := by intro e; rw [e] at hk0; simp at hk0
        have HNT := Aside0.mk hnt
        have g1 : decide (0 < keep.length) = false := decide_eq_false hk0
        clear hnt
        go_wp2
        go_roundw
        case rel => exact ⟨j + 1, S', by omega, by go_num, HM.out, HT.out.skip HNT.out, TR.out⟩
        case measure => simp [intOf]; omega
    · obtain rfl : j = S.keys.length := by omega
      obtain ⟨A, cap, HF, _⟩ := HM.out.facts
      have c1 := HF.c1
      clear HF hlt hj
      go_wp2_with (first
        | ((with_reducible refine gate_builtin (b := .clear) (xs := #[.tmp 44]) rfl ?_); refine wp_clear (x := ek) mt rfl _ rfl rfl HM.out.loose ?_; intro w3 hm3 ht3; obtain ⟨r1, r2⟩ := HM.out.clearLoose ht3 hm3; obtain ⟨A3, cap3, F3, _⟩ := r1.facts; have c2 := F3.c2; have R1 := Aside0.mk r1; have R2 := Aside0.mk (TR.out.trans r2); clear hm3 ht3 r1 r2 F3)
        | ((with_reducible refine gate_builtin (b := .clear) (xs := #[.tmp 48]) rfl ?_); refine wp_clear (x := ek) mt rfl _ rfl rfl R1.out.way ?_; intro w4 hm4 ht4; obtain ⟨r3, r4⟩ := R1.out.clearWay ht4 hm4; obtain ⟨A4, cap4, F4, _⟩ := r3.facts; have c4 := F4.c4; have f4 := F4.f4; have R3 := Aside0.mk r3; have R4 := Aside0.mk (R2.out.trans r4); clear hm4 ht4 r3 r4 F4))
      go_returns
      obtain ⟨r5, r6⟩ := R3.out.setTil (-1) oki_til
      refine ⟨rfl, ⟨_, r5, ?_⟩, ((Turn.of_below HB.out _).trans R4.out).trans (r6.of_mem (.inl rfl))⟩
      have e : ({ (S'.mapI fun _ c => ⟨c.sure, none, c.way⟩).mapI fun _ c => ⟨c.sure, c.loose, none⟩ with til := -1 } : MS) = S'.wiped := by
        refine MS.ext rfl rfl (by simp only [MS.wiped, MS.mapI_len]) fun i h0 h1 => ?_
        simp only [MS.mapI_len] at h1
        show ((S'.mapI fun _ c => ⟨c.sure, none, c.way⟩).mapI fun _ c => ⟨c.sure, c.loose, none⟩).at i = (S'.mapI fun _ c => ⟨c.sure, none, none⟩).at i
        rw [MS.mapI_at _ _ h0 (by rw [MS.mapI_len]; exact h1), MS.mapI_at _ _ h0 h1, MS.mapI_at _ _ h0 h1]
      rw [e]
      exact HT.out.over
set_option maxHeartbeats 400000 in
theorem Crash_nil (w : World) (KA : Option Addr) (n kc : Nat) : Calls Try.prog 12 #[.pointer none, .slice KA n kc] w fun e w' => e = .returned (.tuple #[]) ∧ w = w' := by
  go_enter Try.func12, Try.ntmps12
  go_wp2_with (first
    | (go_at_call 17; refine (Loose_nil _).mono ?_; rintro e w1 ⟨rfl, rfl⟩))
  refine wp_loop_rounds 1 ?_
  rw [rounds_succ]
  go_wp2
  go_returns
  exact ⟨rfl, rfl⟩
end Go.Proofs.Ytifdinoioddnlaa.Mem
