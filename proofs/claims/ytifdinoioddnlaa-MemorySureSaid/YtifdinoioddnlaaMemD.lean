/- A memory's calls: Read, Evict, Stop, Flush. -/
import Derived.Handy
import Derived.Test.YtifdinoioddnlaaMemC
namespace Go.Proofs.Ytifdinoioddnlaa.Mem
open Go Go.RowKit Go.Proofs.Ytifdinoioddnlaa.ML Go.Proofs.YtifdinoioddnlaaW.PrintWords
set_option linter.unusedVariables false
set_option linter.unusedSimpArgs false
section
variable {ops : Array Oper} {rest : List Oper} {o : Oper} {a : Act} {Q : Exit → Act → World → Prop} {w : World} {b : Nat} {m : List (Int × Int)}
theorem lookU_some (hg : o.guard = none) (mo xo : Operand) (hop : o.op = Op.lookup 55 mo xo true) (hm : a.eval mo = .map (some b)) (h : IsM ek 3 w b m) (key : Int) (hx : a.eval xo = .int .i64 key) (hkey : oki key) (v : Int) (hv : get m key = some v)
    (hK : wpList Try.prog ops Q rest (a.put o.dst (.tuple #[.int .u64 v, .bool true])) w) : wpList Try.prog ops Q (o :: rest) a w :=
  wp_look_ok (x := ek) mt hg mo xo hop hm h key hx (oki_wf hkey) (by rw [hv]; exact hK)
theorem lookU_none (hg : o.guard = none) (mo xo : Operand) (hop : o.op = Op.lookup 55 mo xo true) (hm : a.eval mo = .map (some b)) (h : IsM ek 3 w b m) (key : Int) (hx : a.eval xo = .int .i64 key) (hkey : oki key) (hv : get m key = none)
    (hK : wpList Try.prog ops Q rest (a.put o.dst (.tuple #[.int .u64 0, .bool false])) w) : wpList Try.prog ops Q (o :: rest) a w :=
  wp_look_ok (x := ek) mt hg mo xo hop hm h key hx (oki_wf hkey) (by rw [hv]; exact hK)
theorem lookU (hg : o.guard = none) (mo xo : Operand) (hop : o.op = Op.lookup 55 mo xo false) (hm : a.eval mo = .map (some b)) (h : IsM ek 3 w b m) (key : Int) (hx : a.eval xo = .int .i64 key) (hkey : oki key)
    (hK : wpList Try.prog ops Q rest (a.put o.dst (.int .u64 ((get m key).getD 0))) w) : wpList Try.prog ops Q (o :: rest) a w :=
  wp_look (x := ek) mt hg mo xo hop hm h key hx (oki_wf hkey) hK
theorem lookU_as (hg : o.guard = none) (mo xo : Operand) (hop : o.op = Op.lookup 55 mo xo false) (hm : a.eval mo = .map (some b)) (h : IsM ek 3 w b m) (key : Int) (hx : a.eval xo = .int .i64 key) (hkey : oki key) (u : Int) (hu : (get m key).getD 0 = u)
    (hK : wpList Try.prog ops Q rest (a.put o.dst (.int .u64 u)) w) : wpList Try.prog ops Q (o :: rest) a w :=
  wp_look (x := ek) mt hg mo xo hop hm h key hx (oki_wf hkey) (by subst hu; exact hK)
end
theorem MS.has_iff (S : MS) (i : Int) : S.has i = true ↔ 0 ≤ i ∧ i < S.ws.length := by simp [MS.has]
theorem MS.has_false (S : MS) (i : Int) : S.has i = false ↔ ¬ (0 ≤ i ∧ i < S.ws.length) := by simp [MS.has]
theorem MS.Ok.idx {S : MS} (h : S.Ok) {i : Int} (h0 : 0 ≤ i) (h1 : i < S.ws.length) : oki i := by have := h.len; unfold oki; omega
/-- A word as it reads. -/
def Cell.now (c : Cell) : Int := c.loose.getD c.sure
def MS.read (S : MS) (i : Int) : Int := if S.has i then (S.at i).now else 0
set_option maxHeartbeats 400000 in
theorem Read_calls {w : World} {f : Fp} {S : MS} (h : IsMem w f S) (i : Int) (hi : oki i) : Calls Try.prog 16 #[ptr f, .int .i64 i] w fun e w' => e = .returned (.int .u64 (S.read i)) ∧ w = w' := by
  have ht := there_calls h i hi
  obtain ⟨A, cap, H, hr⟩ := h.facts
  have HR := Aside0.mk hr
  have c0 := H.c0
  have c1 := H.c1
  unfold MS.read
  by_cases hb : S.has i = true
  · rw [hb] at ht
    rw [if_pos hb]
    obtain ⟨h0, h1⟩ := (S.has_iff i).1 hb
    obtain ⟨hA, hc, _⟩ := HR.out.cell i h0 h1
    subst hA
    have hg := S.get_loose i h0 h1
    have HL := Aside0.mk h.loose
    have HI := Aside0.mk hi
    cases hl : (S.at i).loose with
    | some v =>
      rw [hl] at hg
      have hfin : (S.at i).now = v := by simp [Cell.now, hl]
      rw [hfin]
      have HG := Aside0.mk hg
      clear H hr h hb hl hg hfin hi h0 h1 hc
      go_enter Try.func16, Try.ntmps16
      go_wp2_with (first
        | (go_at_call 28; refine ht.mono ?_; rintro e w' ⟨rfl, rfl⟩)
        | (at_lookup; refine lookU_some rfl _ _ rfl rfl HL.out i rfl HI.out v HG.out ?_))
      go_ret
      exact ⟨rfl, rfl⟩
    | none =>
      rw [hl] at hg
      have hfin : (S.at i).now = (S.at i).sure := by simp [Cell.now, hl]
      rw [hfin]
      have HG := Aside0.mk hg
      clear H hr h hb hl hg hfin hi
      go_enter Try.func16, Try.ntmps16
      go_wp2_with (first
        | (go_at_call 28; refine ht.mono ?_; rintro e w' ⟨rfl, rfl⟩)
        | (at_lookup; refine lookU_none rfl _ _ rfl rfl HL.out i rfl HI.out HG.out ?_))
      go_ret
      exact ⟨rfl, rfl⟩
  · have hb' : S.has i = false := by simpa using hb
    rw [hb'] at ht
    rw [if_neg hb]
    clear H hr h hb hb' hi
    go_enter Try.func16, Try.ntmps16
    go_wp2_with (first
      | (go_at_call 28; refine ht.mono ?_; rintro e w' ⟨rfl, rfl⟩))
    go_ret
    exact ⟨rfl, rfl⟩
set_option maxHeartbeats 400000 in
theorem Read_nil (w : World) (i : Int) : Calls Try.prog 16 #[.pointer none, .int .i64 i] w fun e w' => e = .returned (.int .u64 0) ∧ w = w' := by
  go_enter Try.func16, Try.ntmps16
  go_wp2_with (first
      | (go_at_call 28; refine (there_nil _ _).mono ?_; rintro e w' ⟨rfl, rfl⟩))
  go_ret
  exact ⟨rfl, rfl⟩
/-- Stop. -/
def MS.stop (S : MS) (n : Int) : MS := { S with til := if n < 0 ∨ 1099511627776 < n then -1 else n }
set_option maxHeartbeats 400000 in
theorem Stop_calls {w : World} {f : Fp} {S : MS} (h : IsMem w f S) (n : Int) (hn : oki n) : Calls Try.prog 23 #[ptr f, .int .i64 n] w fun e w' => e = .returned (.tuple #[]) ∧ IsMem w' f (S.stop n) ∧ Turn f.list w w' := by
  obtain ⟨h1, t1⟩ := h.setTil n hn
  obtain ⟨h2, t2⟩ := h1.setTil (-1) (by unfold oki; omega)
  obtain ⟨A, cap, H, hr⟩ := h.facts
  obtain ⟨A', cap', H', hr'⟩ := h1.facts
  have c4 := H.c4
  have f4 := H.f4
  have c4' := H'.c4
  have f4' := H'.f4
  have T1 : Turn f.list w _ := t1.of_mem (.inl rfl)
  have T2 : Turn f.list w _ := T1.trans (t2.of_mem (.inl rfl))
  have H1 := Aside0.mk h1
  have H2 := Aside0.mk h2
  have T1' := Aside0.mk T1
  have T2' := Aside0.mk T2
  clear H H' hr hr' h1 h2 T1 T2 t1 t2 h hn
  unfold MS.stop
  by_cases k0 : n < 0
  · rw [if_pos (.inl k0)]
    have g0 : decide (n < 0) = true := decide_eq_true k0
    clear k0
    go_enter Try.func23, Try.ntmps23
    go_wp2
    go_returns
    exact ⟨rfl, H2.out, T2'.out⟩
  · have g0 : decide (n < 0) = false := decide_eq_false k0
    by_cases k1 : 1099511627776 < n
    · rw [if_pos (.inr k1)]
      have g1 : decide (1099511627776 < n) = true := decide_eq_true k1
      clear k0 k1
      go_enter Try.func23, Try.ntmps23
      go_wp2
      go_returns
      exact ⟨rfl, H2.out, T2'.out⟩
    · rw [if_neg (by omega)]
      have g1 : decide (1099511627776 < n) = false := decide_eq_false k1
      clear k0 k1
      go_enter Try.func23, Try.ntmps23
      go_wp2
      go_returns
      exact ⟨rfl, H1.out, T1'.out⟩
set_option maxHeartbeats 400000 in
theorem Stop_nil (w : World) (n : Int) : Calls Try.prog 23 #[.pointer none, .int .i64 n] w fun e w' => e = .returned (.tuple #[]) ∧ w = w' := by
  go_enter Try.func23, Try.ntmps23
  go_wp2
  go_returns
  exact ⟨rfl, rfl⟩
/-- Evict. -/
def MS.evict (S : MS) (i : Int) : MS := if S.has i then match (S.at i).loose with
  | some v => S.set i ⟨v, none, none⟩
  | none => S else S
set_option maxHeartbeats 400000 in
theorem Evict_calls {w : World} {f : Fp} {S : MS} (h : IsMem w f S) (i : Int) (hi : oki i) : Calls Try.prog 26 #[ptr f, .int .i64 i] w fun e w' => e = .returned (.tuple #[]) ∧ IsMem w' f (S.evict i) ∧ Turn f.list w w' := by
  have ht := there_calls h i hi
  obtain ⟨A, cap, H, hr⟩ := h.facts
  have HR := Aside0.mk hr
  have c0 := H.c0
  have c1 := H.c1
  unfold MS.evict
  by_cases hb : S.has i = true
  · rw [hb] at ht
    rw [if_pos hb]
    obtain ⟨h0, h1⟩ := (S.has_iff i).1 hb
    obtain ⟨hA, hc, hf⟩ := HR.out.cell i h0 h1
    subst hA
    have hg := S.get_loose i h0 h1
    have HL := Aside0.mk h.loose
    have HI := Aside0.mk hi
    have HN := Aside0.mk (And.intro h0 h1)
    have hok := h.ok.at i
    cases hl : (S.at i).loose with
    | some v =>
      rw [hl] at hg
      have hv := hok.2.1 v hl
      obtain ⟨h2, t2⟩ := h.setSure i h0 h1 v hv
      obtain ⟨A2, cap2, F2, _⟩ := h2.facts
      have c1' := F2.c1
      have T2 := Aside0.mk (t2.of_mem (f := f) (.inr (.inl rfl)))
      have H2 := Aside0.mk h2
      have HG := Aside0.mk hg
      clear H hr h hb hl hg hi hok hv t2 F2 h2
      simp only []
      go_enter Try.func26, Try.ntmps26
      go_wp2_with (first
        | (go_at_call 28; refine ht.mono ?_; rintro e w' ⟨rfl, rfl⟩)
        | (at_lookup; refine lookU_some rfl _ _ rfl rfl HL.out i rfl HI.out v HG.out ?_)
        | ((with_reducible refine gate_builtin (b := .delete) (xs := #[.tmp 30, .tmp 31]) rfl ?_); refine wp_del (x := ek) mt rfl _ _ rfl rfl H2.out.loose i rfl (oki_wf HI.out) ?_; intro w3 hm3 ht3;
           obtain ⟨h3, t3⟩ := H2.out.delLoose HN.out.1 (by rw [MS.set_len]; exact HN.out.2) ht3 hm3; rw [MS.set_set, MS.set_at_same _ _ HN.out.1 HN.out.2] at h3;
           obtain ⟨A3, cap3, F3, _⟩ := h3.facts; have c2'' := F3.c2; have H3 := Aside0.mk h3; have T3 := Aside0.mk t3; clear F3 h3 t3 hm3 ht3)
        | ((with_reducible refine gate_builtin (b := .delete) (xs := #[.tmp 35, .tmp 36]) rfl ?_); refine wp_del (x := ek) mt rfl _ _ rfl rfl H3.out.way i rfl (oki_wf HI.out) ?_; intro w4 hm4 ht4;
           obtain ⟨h4, t4⟩ := H3.out.delWay HN.out.1 (by rw [MS.set_len]; exact HN.out.2) ht4 hm4; rw [MS.set_set, MS.set_at_same _ _ HN.out.1 HN.out.2] at h4; have H4 := Aside0.mk h4; have T4 := Aside0.mk t4; clear h4 t4 hm4 ht4))
      go_returns
      exact ⟨rfl, H4.out, (T2.out.trans T3.out).trans T4.out⟩
    | none =>
      rw [hl] at hg
      have HG := Aside0.mk hg
      have H0 := Aside0.mk h
      clear H hr h hb hl hg hi hc hf hok
      simp only []
      go_enter Try.func26, Try.ntmps26
      go_wp2_with (first
        | (go_at_call 28; refine ht.mono ?_; rintro e w' ⟨rfl, rfl⟩)
        | (at_lookup; refine lookU_none rfl _ _ rfl rfl HL.out i rfl HI.out HG.out ?_))
      go_returns
      exact ⟨rfl, H0.out, Turn.refl _ _⟩
  · have hb' : S.has i = false := by simpa using hb
    rw [hb'] at ht
    rw [if_neg hb]
    have H0 := Aside0.mk h
    clear H hr h hb hb' hi
    go_enter Try.func26, Try.ntmps26
    go_wp2_with (first
      | (go_at_call 28; refine ht.mono ?_; rintro e w' ⟨rfl, rfl⟩))
    go_returns
    exact ⟨rfl, H0.out, Turn.refl _ _⟩
set_option maxHeartbeats 400000 in
theorem Evict_nil (w : World) (i : Int) : Calls Try.prog 26 #[.pointer none, .int .i64 i] w fun e w' => e = .returned (.tuple #[]) ∧ w = w' := by
  go_enter Try.func26, Try.ntmps26
  go_wp2_with (first
      | (go_at_call 28; refine (there_nil _ _).mono ?_; rintro e w' ⟨rfl, rfl⟩))
  go_returns
  exact ⟨rfl, rfl⟩
end Go.Proofs.Ytifdinoioddnlaa.Mem
