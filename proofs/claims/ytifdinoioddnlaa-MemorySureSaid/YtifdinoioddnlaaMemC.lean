/- A memory's calls: there, call, Size, Calls, Store. -/
import Derived.Test.YtifdinoioddnlaaMemB
namespace Go.Proofs.Ytifdinoioddnlaa.Mem
open Go Go.RowKit Go.Proofs.Ytifdinoioddnlaa.ML Go.Proofs.YtifdinoioddnlaaW.PrintWords
set_option linter.unusedVariables false
set_option linter.unusedSimpArgs false
def MS.has (S : MS) (i : Int) : Bool := decide (0 ≤ i ∧ i < S.ws.length)
abbrev ptr (f : Fp) : Value := .pointer (some ⟨f.p, 0, none⟩)
set_option maxHeartbeats 400000 in
theorem there_calls {w : World} {f : Fp} {S : MS} (h : IsMem w f S) (i : Int) (hi : oki i) : Calls Try.prog 28 #[ptr f, .int .i64 i] w fun e w' => e = .returned (.bool (S.has i)) ∧ w = w' := by
  obtain ⟨A, cap, H, hr⟩ := h.facts
  have c0 := H.c0
  clear H hr
  unfold MS.has
  by_cases h0 : 0 ≤ i
  · have g0 : decide (0 ≤ i) = true := decide_eq_true h0
    by_cases h1 : i < S.ws.length
    · have g1 : decide (i < (S.ws.length : Int)) = true := decide_eq_true h1
      rw [decide_eq_true (And.intro h0 h1)]
      clear h0 h1
      go_enter Try.func28, Try.ntmps28
      go_wp2
      go_ret
      exact ⟨rfl, rfl⟩
    · have g1 : decide (i < (S.ws.length : Int)) = false := decide_eq_false h1
      rw [decide_eq_false (fun h => h1 h.2)]
      clear h0 h1
      go_enter Try.func28, Try.ntmps28
      go_wp2
      go_ret
      exact ⟨rfl, rfl⟩
  · have g0 : decide (0 ≤ i) = false := decide_eq_false h0
    rw [decide_eq_false (fun h => h0 h.1)]
    clear h0
    go_enter Try.func28, Try.ntmps28
    go_wp2
    go_ret
    exact ⟨rfl, rfl⟩
set_option maxHeartbeats 400000 in
theorem there_nil (w : World) (i : Int) : Calls Try.prog 28 #[.pointer none, .int .i64 i] w fun e w' => e = .returned (.bool false) ∧ w = w' := by
  go_enter Try.func28, Try.ntmps28
  go_wp2
  go_ret
  exact ⟨rfl, rfl⟩
/-- What a call that counts does. -/
def MS.call (S : MS) (there : Bool) : Int × MS :=
  if S.til = 0 then (14, { S with calls := wrap64 (S.calls + 1) })
  else if 0 < S.til then (if there then 0 else 1, { S with calls := wrap64 (S.calls + 1), til := S.til - 1 })
  else (if there then 0 else 1, { S with calls := wrap64 (S.calls + 1) })
theorem oki_wrap (x : Int) : oki (wrap64 x) := by unfold oki wrap64; omega
set_option maxHeartbeats 400000 in
theorem call_calls {w : World} {f : Fp} {S : MS} (h : IsMem w f S) (there : Bool) : Calls Try.prog 31 #[ptr f, .bool there] w fun e w' => e = .returned (.int .i64 (S.call there).1) ∧ IsMem w' f (S.call there).2 ∧ Turn f.list w w' := by
  obtain ⟨h1, t1⟩ := h.setNum (wrap64 (S.calls + 1)) (oki_wrap _)
  obtain ⟨A, cap, H, hr⟩ := h.facts
  obtain ⟨A', cap', H', hr'⟩ := h1.facts
  have c3 := H.c3
  have f3 := H.f3
  have c4 := H'.c4
  have f4 := H'.f4
  have ho := h.ok.til
  unfold oki at ho
  have T1 : Turn f.list w _ := t1.mono (fun x hx => .inl (by simp [Fp.list] at hx ⊢; omega))
  clear H hr H' hr' t1
  unfold MS.call
  by_cases k0 : S.til = 0
  · rw [if_pos k0]
    have g0 : (S.til == 0) = true := by simp [k0]
    clear k0
    have H1 := Aside0.mk h1
    have T1' := Aside0.mk T1
    clear h1 T1 h
    go_enter Try.func31, Try.ntmps31
    go_wp2
    go_ret
    exact ⟨rfl, H1.out, T1'.out⟩
  · rw [if_neg k0]
    have g0 : (S.til == 0) = false := by simp [k0]
    clear k0
    by_cases k1 : 0 < S.til
    · rw [if_pos k1]
      have g1 : decide (0 < S.til) = true := decide_eq_true k1
      obtain ⟨h2, t2⟩ := h1.setTil (S.til - 1) (by unfold oki; omega)
      have T2 : Turn f.list w _ := T1.trans (t2.mono (fun x hx => .inl (by simp [Fp.list] at hx ⊢; omega)))
      have hw : IntKind.i64.wrap (S.til - 1) = S.til - 1 := IntWalk.i64_in _ (by omega)
      have H2 := Aside0.mk h2
      have T2' := Aside0.mk T2
      clear h2 T2 h t2 T1 h1
      cases there
      · go_enter Try.func31, Try.ntmps31
        go_wp2
        go_ret
        exact ⟨rfl, H2.out, T2'.out⟩
      · go_enter Try.func31, Try.ntmps31
        go_wp2
        go_ret
        exact ⟨rfl, H2.out, T2'.out⟩
    · rw [if_neg k1]
      have g1 : decide (0 < S.til) = false := decide_eq_false k1
      have H1 := Aside0.mk h1
      have T1' := Aside0.mk T1
      clear h1 T1 h k1
      cases there
      · go_enter Try.func31, Try.ntmps31
        go_wp2
        go_ret
        exact ⟨rfl, H1.out, T1'.out⟩
      · go_enter Try.func31, Try.ntmps31
        go_wp2
        go_ret
        exact ⟨rfl, H1.out, T1'.out⟩
set_option maxHeartbeats 400000 in
theorem call_nil (w : World) (b : Bool) : Calls Try.prog 31 #[.pointer none, .bool b] w fun e w' => e = .returned (.int .i64 1) ∧ w = w' := by
  go_enter Try.func31, Try.ntmps31
  go_wp2
  go_ret
  exact ⟨rfl, rfl⟩
theorem okw_wf {v : Int} (h : okw v) : (Lit.int .u64 v).wf = true := by
  unfold okw at h
  simp [Lit.wf, IntKind.min, IntKind.max, IntKind.bits, IntKind.signed]
  omega
theorem oki_wf {v : Int} (h : oki v) : (Lit.int .i64 v).wf = true := by
  unfold oki at h
  simp [Lit.wf, IntKind.min, IntKind.max, IntKind.bits, IntKind.signed]
  omega
set_option maxHeartbeats 400000 in
theorem Size_calls {w : World} {f : Fp} {S : MS} (h : IsMem w f S) : Calls Try.prog 15 #[ptr f] w fun e w' => e = .returned (.int .i64 S.ws.length) ∧ w = w' := by
  obtain ⟨A, cap, H, hr⟩ := h.facts
  have c0 := H.c0
  clear H hr h
  go_enter Try.func15, Try.ntmps15
  go_wp2
  go_ret
  exact ⟨rfl, rfl⟩
set_option maxHeartbeats 400000 in
theorem Size_nil (w : World) : Calls Try.prog 15 #[.pointer none] w fun e w' => e = .returned (.int .i64 0) ∧ w = w' := by
  go_enter Try.func15, Try.ntmps15
  go_wp2
  go_ret
  exact ⟨rfl, rfl⟩
set_option maxHeartbeats 400000 in
theorem Calls_calls {w : World} {f : Fp} {S : MS} (h : IsMem w f S) : Calls Try.prog 24 #[ptr f] w fun e w' => e = .returned (.int .i64 S.calls) ∧ w = w' := by
  obtain ⟨A, cap, H, hr⟩ := h.facts
  have c3 := H.c3
  clear H hr h
  go_enter Try.func24, Try.ntmps24
  go_wp2
  go_ret
  exact ⟨rfl, rfl⟩
set_option maxHeartbeats 400000 in
theorem Calls_nil (w : World) : Calls Try.prog 24 #[.pointer none] w fun e w' => e = .returned (.int .i64 0) ∧ w = w' := by
  go_enter Try.func24, Try.ntmps24
  go_wp2
  go_ret
  exact ⟨rfl, rfl⟩
/-- Store. -/
def MS.store (S : MS) (i v : Int) : Int × MS :=
  let r := S.call (S.has i)
  if r.1 = 0 then (0, r.2.set i ⟨(r.2.at i).sure, some v, (r.2.at i).way⟩) else r
theorem call_ws (S : MS) (b : Bool) : (S.call b).2.ws = S.ws := by
  unfold MS.call
  split
  · rfl
  · split <;> rfl
theorem call_ok (S : MS) (b : Bool) (h : (S.call b).1 = 0) : b = true := by
  cases b
  · unfold MS.call at h
    split at h
    · cases h
    · split at h <;> cases h
  · rfl
set_option maxHeartbeats 400000 in
theorem Store_calls {w : World} {f : Fp} {S : MS} (h : IsMem w f S) (i v : Int) (hi : oki i) (hv : okw v) : Calls Try.prog 25 #[ptr f, .int .i64 i, .int .u64 v] w fun e w' => e = .returned (.int .i64 (S.store i v).1) ∧ IsMem w' f (S.store i v).2 ∧ Turn f.list w w' := by
  have hT : ∃ b, S.has i = b := ⟨_, rfl⟩
  obtain ⟨b, hb⟩ := hT
  have hc := call_calls h b
  have ht := there_calls h i hi
  rw [hb] at ht
  unfold MS.store
  rw [hb]
  have hok := call_ok S b
  have hws := call_ws S b
  generalize hr : S.call b = r at hc hok hws ⊢
  obtain ⟨q, S1⟩ := r
  have hkey := oki_wf hi
  by_cases k0 : q = 0
  · subst k0
    obtain rfl := hok rfl
    have hh := hb
    unfold MS.has at hh
    have hh' := of_decide_eq_true hh
    have hn : (i : Int) < S1.ws.length := by simp only [] at hws; rw [hws]; exact hh'.2
    have HN := Aside0.mk (And.intro hh'.1 hn)
    clear hh hh' hb hr hn hok hws
    simp only [if_true]
    have HI := Aside0.mk hi
    have HV := Aside0.mk hv
    have HK := Aside0.mk hkey
    clear hi hv hkey
    go_enter Try.func25, Try.ntmps25
    go_wp2_with (first
      | (go_at_call 28; refine ht.mono ?_; rintro e w' ⟨rfl, rfl⟩)
      | (go_at_call 31; refine hc.mono ?_; rintro e w1 ⟨rfl, h1, t1⟩; obtain ⟨A, cap, HF, hr⟩ := h1.facts; have c1 := HF.c1; have H1 := Aside0.mk h1; have T1 := Aside0.mk t1; clear HF hr h1 t1)
      | (at_mapUpdate; refine wp_put (x := ek) mt rfl _ _ _ rfl rfl H1.out.loose (by have := S1.loose_len; have := H1.out.ok.len; omega) i v rfl rfl HK.out (okw_wf HV.out) ?_; intro w2 hm ht2))
    go_ret
    obtain ⟨r1, r2⟩ := H1.out.turnLoose (S' := S1.set i ⟨(S1.at i).sure, some v, (S1.at i).way⟩) ht2 (by rw [← MS.loose_put S1 HN.out.1 HN.out.2 v _ rfl]; exact hm) (MS.set_ok H1.out.ok i ⟨(H1.out.ok.at i).1, (fun _ e => by cases e; exact HV.out), (H1.out.ok.at i).2.2⟩) rfl rfl (MS.set_len _ _ _) (MS.sures_same _ HN.out.1 HN.out.2 _ rfl) (MS.way_same _ HN.out.1 HN.out.2 _ rfl)
    exact ⟨rfl, r1, T1.out.trans (r2.mono (fun x hx => .inl (by simp [Fp.list] at hx ⊢; omega)))⟩
  · have g0 : (q == 0) = false := by simp [k0]
    rw [if_neg k0]
    clear k0 hb hr hok hws hkey
    go_enter Try.func25, Try.ntmps25
    go_wp2_with (first
      | (go_at_call 28; refine ht.mono ?_; rintro e w' ⟨rfl, rfl⟩)
      | (go_at_call 31; refine hc.mono ?_; rintro e w1 ⟨rfl, h1, t1⟩; have H1 := Aside0.mk h1; have T1 := Aside0.mk t1; clear h1 t1))
    go_ret
    exact ⟨rfl, H1.out, T1.out⟩
set_option maxHeartbeats 400000 in
theorem Store_nil (w : World) (i v : Int) : Calls Try.prog 25 #[.pointer none, .int .i64 i, .int .u64 v] w fun e w' => e = .returned (.int .i64 1) ∧ w = w' := by
  go_enter Try.func25, Try.ntmps25
  go_wp2_with (first
      | (go_at_call 28; refine (there_nil _ _).mono ?_; rintro e w' ⟨rfl, rfl⟩)
      | (go_at_call 31; refine (call_nil _ _).mono ?_; rintro e w' ⟨rfl, rfl⟩))
  go_ret
  exact ⟨rfl, rfl⟩
end Go.Proofs.Ytifdinoioddnlaa.Mem
