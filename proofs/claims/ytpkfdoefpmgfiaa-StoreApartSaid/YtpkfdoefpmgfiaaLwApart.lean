/- Two views that leave alone what the other one took, take nothing both. -/
import Derived.Test.YtpkfdoefpmgfiaaApX
import Derived.Test.YtpkfdoefpmgfiaaLwAll
namespace Go.Proofs.Ytpkfdoefpmgfiaa.Sto
open Go Go.RowKit Go.Proofs.Ytpkfdoefpmgfiaa.ML Go.Proofs.Ytpkfdoefpmgfiaa.Mem Go.Proofs.Ytpkfdoefpmgfiaa.Vw Go.Proofs.Ytpkfdoefpmgfiaa.Reg Go.Proofs.Ytpkfdoefpmgfiaa.Print Go.Proofs.YtpkfdoefpmgfiaaW.PrintWords Go.Proofs.YtpkfdoefpmgfiaaW.PrintLast Go.Proofs.YtpkfdoefpmgfiaaW.PrintMore
set_option linter.unusedVariables false
set_option linter.unusedSimpArgs false
theorem C_take {w : World} {A : Option Addr} {n : Nat} {l : List Int} (h : Kd.C (Kd.int .i64) w A n l) (j : Nat) (hj : j ≤ n) : Kd.C (Kd.int .i64) w A j (l.take j) := by
  obtain ⟨h1, h2, h3⟩ := h
  refine ⟨by rw [List.length_take]; omega, by omega, fun h0 => ?_⟩
  obtain ⟨ad, hA, h4⟩ := h3 (by omega)
  refine ⟨ad, hA, fun i p hi => h4 i p ?_⟩
  rw [List.getElem?_take] at hi
  split at hi
  · exact hi
  · cases hi
theorem elem_at {w : World} {ad : Addr} {n : Nat} {l : List Int} (h : Kd.C (Kd.int .i64) w (some ad) n l) (j : Nat) {x : Int} (hx : l[j]? = some x) : w.cell? (ad.add j) = some (.int .i64 x) := by
  have hl := h.1
  have hj : j < l.length := (List.getElem?_eq_some_iff.1 hx).1
  obtain ⟨ad', e, hc⟩ := Kd.at_int h (j : Int) (by omega) (by omega)
  injection e with e
  subst e
  have hr : rd l (j : Int) = x := by unfold rd; rw [Int.toNat_natCast, List.getD_eq_getElem?_getD, hx]; rfl
  rw [hr] at hc
  simpa using hc
theorem not_before {l : List Int} (hn : l.Nodup) {j : Nat} {x : Int} (hx : l[j]? = some x) : x ∉ l.take j := by
  intro hm
  obtain ⟨i, hi, e⟩ := List.mem_iff_getElem.1 hm
  rw [List.length_take] at hi
  have hj : j < l.length := (List.getElem?_eq_some_iff.1 hx).1
  have e2 : l[i]'(by omega) = x := by rw [← e, List.getElem_take]
  have e3 : l[j] = x := (List.getElem?_eq_some_iff.1 hx).2
  exact absurd (e2.trans e3.symm) (List.pairwise_iff_getElem.1 hn i j (by omega) hj (by omega))
theorem pick_true (p : Nat → Bool) : ∀ n : Nat, (∀ j, j < n → p j = false) ∨ ∃ m, m < n ∧ p m = true ∧ ∀ j, j < m → p j = false := by
  intro n
  induction n with
  | zero => exact .inl fun j hj => by omega
  | succ n ih =>
    rcases ih with h | ⟨m, h1, h2, h3⟩
    · cases hp : p n with
      | true => exact .inr ⟨n, by omega, hp, h⟩
      | false =>
        refine .inl fun j hj => ?_
        by_cases e : j = n
        · rw [e]; exact hp
        · exact h j (by omega)
    · exact .inr ⟨m, by omega, h2, h3⟩
theorem pick_false (p : Nat → Bool) : ∀ n : Nat, (∀ j, 2 ≤ j → j < n → p j = true) ∨ ∃ m, 2 ≤ m ∧ m < n ∧ p m = false ∧ ∀ j, 2 ≤ j → j < m → p j = true := by
  intro n
  induction n with
  | zero => exact .inl fun j h2 hj => by omega
  | succ n ih =>
    rcases ih with h | ⟨m, h0, h1, h2, h3⟩
    · by_cases hn : 2 ≤ n
      · cases hp : p n with
        | false => exact .inr ⟨n, hn, by omega, hp, h⟩
        | true =>
          refine .inl fun j h2 hj => ?_
          by_cases e : j = n
          · rw [e]; exact hp
          · exact h j h2 (by omega)
      · exact .inl fun j h2 hj => by omega
    · exact .inr ⟨m, h0, by omega, h2, h3⟩
theorem St.drew {w0 w : World} {col : Nat → Nat} {f : Fp} {gv gb gn : Nat} {p q : Vp} {V W : VS} {s t u v : Value} {B C N M : List Int} (h : St w0 w col f gv gb gn p q V W s t u v B C N M) : St w0 w.drew col f gv gb gn p q V W s t u v B C N M :=
  h.turnP (L := []) (Turn.drew w []) (fun b hb => by cases hb) (h.vp.kept (Turn.drew w []) (by simp)) rfl h.cp
theorem readsI {e : TypeId} {w : World} {base : Nat} {ok : Nat → Prop} {A : Option Addr} {n cap : Nat} {xs : List Int} (h : Kd.R (Kd.int .i64) e w base ok (.slice A n cap) xs) : Kd.C (Kd.int .i64) w A xs.length xs ∧ xs.length ≤ cap := by
  obtain ⟨A', cap', hv, hc, hC⟩ := Kd.R_reads h
  injection hv with e1 e2 e3
  subst e1 e3
  exact ⟨hC, hc⟩
theorem Two.len {lo hi : Int} {L M : List Int} (h : Two lo hi L M) : L.length ≤ (hi - lo).toNat := by
  have := sub_len L (rangeI lo (hi - lo).toNat) h.nl (fun x hx => mem_rangeI.2 (by have := h.rl x hx; omega))
  simpa [rangeI] using this
theorem Two.oki {L M : List Int} (h : Two 0 96 L M ∨ Two 2 24 L M) : ∀ k ∈ L, oki k := by
  intro k hk
  unfold Mem.oki
  rcases h with h | h <;> (have := h.rl k hk; omega)
def col0 (gv n gb : Nat) (k : Nat) : Nat := if k < gv then 4 else if k = gv then 7 else if k < n then 5 else if k < gb then 6 else if k = gb then 8 else 9
set_option maxHeartbeats 8000000 in
set_option maxRecDepth 100000 in
theorem StoreApart_calls (w : World) (KA : Option Addr) (kc : Nat) (tu : List Bool) (hk : Kd.C Kd.bool w KA tu.length tu) : Calls Try.prog 3 #[.slice KA tu.length kc] w fun e w' => e = .returned (.bool true) ∧ Below w.heap.size w w' := by
  have HK := Aside0.mk hk
  clear hk
  go_enter Try.func3, Try.ntmps3
  go_wp2_with (first
    | (go_at_call 7; refine (lives_calls _).mono ?_; rintro e w0 ⟨rfl, hb⟩; have B0 := Aside0.mk hb; clear hb)
    | (go_at_call 9; refine (image_as _).mono ?_; rintro e w1 ⟨A, cap, rfl, hC, hc, hb⟩; have C1 := Aside0.mk hC; have K1 := Aside0.mk hc; have B1 := Aside0.mk (B0.out.trans (hb.mono B0.out.size)); clear hC hc hb B0)
    | (go_at_call 8; refine (Load_as 2824 img_len C1.out K1.out img_ok).mono ?_; rintro e w2 ⟨f, rfl, f1, f2, f3⟩; have M2 := Aside0.mk (show IsMem w2 f S0 from f1); have B2 := Aside0.mk (B1.out.trans (f3.mono B1.out.size)); clear f1 f2 f3 B1 C1 K1)
    | ((with_reducible refine gate_dst (N := 4) rfl ?_); refine box_event ?hg (N := 4) ?hd (cs := #[.pointer none, .pointer none]) (t := 29) ?hr ?_; (case hd => rfl); (case hg => rfl); (case hr => first | (go_simp; done) | (go_simp; rfl)); intro gv hg w3 hbox hb; have XV3 := Aside0.mk hbox; have GV := Aside0.mk (show w.heap.size ≤ gv by rw [hg]; exact B2.out.size); have FL := Aside0.mk (show ∀ b ∈ f.list, b < gv by rw [hg]; exact M2.out.lts); have GL := Aside0.mk (blk_lt hbox); have M3 := Aside0.mk (M2.out.below hb); have B3 := Aside0.mk (B2.out.trans (hb.mono B2.out.size)); clear hb hbox hg M2 B2)
    | (go_at_call 10; refine (New_as M5.out S0_len).mono ?_; rintro e w6 ⟨q, rfl, f1, f2, f3, f4, f5⟩; have QV6 := Aside0.mk f1; have PV6 := Aside0.mk (PV5.out.below f5); have M6 := Aside0.mk f2; have QN := Aside0.mk f4; have XV6 := Aside0.mk (blk_below XV5.out f5); have y1 := cell_of XV6.out (o := 1) rfl; have yf := frozen_of XV6.out (o := 1); have B6 := Aside0.mk (B5.out.trans (f5.mono B5.out.size)); clear f1 f2 f3 f4 f5 PV5 M5 XV5 B5)
    | (go_at_call 10; refine (New_as M3.out S0_len).mono ?_; rintro e w4 ⟨p, rfl, f1, f2, f3, f4, f5⟩; have PV4 := Aside0.mk f1; have M4 := Aside0.mk f2; have PN := Aside0.mk f4; have PL := Aside0.mk f1.lts; have XV4 := Aside0.mk (blk_below XV3.out f5); have x0 := cell_of XV4.out (o := 0) rfl; have xf := frozen_of XV4.out (o := 0); have B4 := Aside0.mk (B3.out.trans (f5.mono B3.out.size)); clear f1 f2 f3 f4 f5 M3 XV3 B3)
    | ((with_reducible refine gate_store (t := 28) (p := 22) rfl ?_); refine store_event (t := 28) (p := 22) (v := ?vo_) (w1 := w4.setCell ⟨gv, 0, none⟩ (vptr p)) ?hg ?ho ?hn ?hr ?_; (case ho => rfl); (case hg => rfl); (case hn => rfl); (case hr => first | (go_simp; done) | (go_simp; rfl)); intro w5 hw; have hs5 := heap_set_same (o := 0) (vptr p) XV4.out; rw [← hw] at hs5; have t5 := Turn.setCell w4 ⟨gv, 0, none⟩ (vptr p); rw [← hw] at t5; have XV5 := Aside0.mk (show w5.heap[gv]? = some (.cells #[vptr p, .pointer none] 29 (0, 0)) from hs5); have PV5 := Aside0.mk (PV4.out.kept t5 (fun b hb hm => by have h1 := PN.out b hb; have h2 := GL.out; simp at hm; omega)); have M5 := Aside0.mk (M4.out.kept t5 (fun b hb hm => by have h1 := FL.out b hb; simp at hm; omega)); have B5 := Aside0.mk (B4.out.trans (t5.below B4.out.size (fun b hm => by have h1 := GV.out; simp at hm; omega))); have S5 := Aside0.mk t5.size; clear hs5 t5 hw PV4 M4 XV4 B4 x0 xf)
    | ((with_reducible refine gate_store (t := 28) (p := 25) rfl ?_); refine store_event (t := 28) (p := 25) (v := ?vo2_) (w1 := w6.setCell ⟨gv, 1, none⟩ (vptr q)) ?hg ?ho ?hn ?hr ?_; (case ho => rfl); (case hg => rfl); (case hn => rfl); (case hr => first | (go_simp; done) | (go_simp; rfl)); intro w7 hw; have hs5 := heap_set_same (o := 1) (vptr q) XV6.out; rw [← hw] at hs5; have t5 := Turn.setCell w6 ⟨gv, 1, none⟩ (vptr q); rw [← hw] at t5; have XV7 := Aside0.mk (show w7.heap[gv]? = some (.cells #[vptr p, vptr q] 29 (0, 0)) from hs5); have PV7 := Aside0.mk (PV6.out.kept t5 (fun b hb hm => by have h1 := PN.out b hb; have h2 := GL.out; simp at hm; omega)); have QV7 := Aside0.mk (QV6.out.kept t5 (fun b hb hm => by have h1 := QN.out b hb; have h2 := PL.out gv; have h3 := S5.out; have h4 := GL.out; have h5 := PN.out p.p (by simp [Vp.list]); have h6 := PL.out p.p (by simp [Vp.list]); simp at hm; omega)); have M7 := Aside0.mk (M6.out.kept t5 (fun b hb hm => by have h1 := FL.out b hb; simp at hm; omega)); have B7 := Aside0.mk (B6.out.trans (t5.below B6.out.size (fun b hm => by have h1 := GV.out; simp at hm; omega))); clear hs5 t5 hw PV6 QV6 M6 XV6 B6 y1 yf)
    | ((with_reducible refine gate_dst (N := 5) rfl ?_); refine box_event ?hg (N := 5) ?hd (cs := #[.slice none 0 0, .slice none 0 0]) (t := 32) ?hr ?_; (case hd => rfl); (case hg => rfl); (case hr => first | (go_simp; done) | (go_simp; rfl)); intro gb hg w8 hbox hb; have XB8 := Aside0.mk hbox; have GB := Aside0.mk (show w.heap.size ≤ gb by rw [hg]; exact B7.out.size); have QL := Aside0.mk (show ∀ b ∈ q.list, b < gb by rw [hg]; exact QV7.out.lts); have BL := Aside0.mk (blk_lt hbox); have PV8 := Aside0.mk (PV7.out.below hb); have QV8 := Aside0.mk (QV7.out.below hb); have XV8 := Aside0.mk (blk_below XV7.out hb); have M8 := Aside0.mk (M7.out.below hb); have B8 := Aside0.mk (B7.out.trans (hb.mono B7.out.size)); clear hb hbox hg M7 B7 PV7 QV7 XV7)
    | ((with_reducible refine gate_dst (N := 6) rfl ?_); refine box_event ?hg (N := 6) ?hd (cs := #[.slice none 0 0, .slice none 0 0]) (t := 32) ?hr ?_; (case hd => rfl); (case hg => rfl); (case hr => first | (go_simp; done) | (go_simp; rfl)); intro gn hg w9 hbox hb; have XN9 := Aside0.mk hbox; have GN := Aside0.mk (show gb < gn by rw [hg]; exact BL.out); have XB9 := Aside0.mk (blk_below XB8.out hb); have PV9 := Aside0.mk (PV8.out.below hb); have QV9 := Aside0.mk (QV8.out.below hb); have XV9 := Aside0.mk (blk_below XV8.out hb); have M9 := Aside0.mk (M8.out.below hb); have B9 := Aside0.mk (B8.out.trans (hb.mono B8.out.size)); clear hb hbox hg M8 B8 PV8 QV8 XV8 XB8)
    | fail)
  have ST := Aside0.mk (show St w w9 (col0 gv w4.heap.size gb) f gv gb gn p q newV newV (.slice none 0 0) (.slice none 0 0) (.slice none 0 0) (.slice none 0 0) [] [] [] [] from by
    have h1 := GV.out; have h2 := GB.out; have h3 := GN.out; have h4 := GL.out; have h5 := S5.out
    have h6 := PN.out p.p (by simp [Vp.list])
    have h7 := PL.out p.p (by simp [Vp.list])
    have h8 := QN.out q.p (by simp [Vp.list])
    have h9 := QL.out q.p (by simp [Vp.list])
    refine ⟨M9.out, PV9.out, QV9.out, XV9.out, XB9.out, XN9.out, Kd.R_nil _ _ _ _ _, Kd.R_nil _ _ _ _ _, Kd.R_nil _ _ _ _ _, Kd.R_nil _ _ _ _ _, fun x hx => ?_, fun x hx => ?_, fun x hx => ?_, ⟨?_, h1⟩, ⟨?_, h2⟩, ⟨?_, by omega⟩, B9.out⟩
    · have := FL.out x hx
      unfold col0
      rw [if_pos this]
    · have a := PN.out x hx
      have b := PL.out x hx
      refine ⟨?_, by omega⟩
      unfold col0
      rw [if_neg (by omega), if_neg (by omega), if_pos b]
    · have a := QN.out x hx
      have b := QL.out x hx
      refine ⟨?_, by omega⟩
      unfold col0
      rw [if_neg (by omega), if_neg (by omega), if_neg (by omega), if_pos b]
    · unfold col0
      rw [if_neg (by omega), if_pos rfl]
    · unfold col0
      rw [if_neg (by omega), if_neg (by omega), if_neg (by omega), if_neg (by omega), if_pos rfl]
    · unfold col0
      rw [if_neg (by omega), if_neg (by omega), if_neg (by omega), if_neg (by omega), if_neg (by omega)])
  clear M9 PV9 QV9 XV9 XB9 XN9 FL GL PN PL QN QL BL GN GB GV S5 B9
  go_wp2
  go_loopw [7] (fun x wr => ∃ (i : Nat) (col : Nat → Nat) (p1 q1 : Vp) (V W : VS) (s t u v : Value) (B C N M : List Int), i ≤ tu.length ∧ i ≤ 260 ∧ x = .int .i64 (i : Int) ∧ St w wr col f gv gb gn p1 q1 V W s t u v B C N M ∧ Own V S0 B N ∧ Own W S0 C M ∧ Two 0 96 B C ∧ Two 2 24 N M) (fun x _ => 300 - (intOf x).toNat)
  case atStart => exact ⟨0, _, _, _, _, _, _, _, _, _, _, _, _, _, by omega, by omega, rfl, ST.out, Own.new clean_img, Own.new clean_img, Two.nil _ _, Two.nil _ _⟩
  case round =>
    obtain ⟨i, col, p1, q1, V, W, s, t, u, v, B, C, N, M, hi, hi2, rfl, hst, hov, how, htb, htn⟩ := hrel
    obtain ⟨As, cs, es⟩ := Kd.R_slice hst.rs
    obtain ⟨At, ct, et⟩ := Kd.R_slice hst.rt
    obtain ⟨Au, cu, eu⟩ := Kd.R_slice hst.ru
    obtain ⟨Av, cv, ev⟩ := Kd.R_slice hst.rv
    subst es et eu ev
    have SS := Aside0.mk hst
    have OV := Aside0.mk hov
    have OW := Aside0.mk how
    have TB := Aside0.mk htb
    have TN := Aside0.mk htn
    clear hst hov how htb htn ST
    by_cases hlt : i < tu.length ∧ i < 260
    · have g1 : decide ((i : Int) < (tu.length : Int)) = true := decide_eq_true (by omega)
      have g2 : decide ((i : Int) < 260) = true := decide_eq_true (by omega)
      obtain ⟨ad, hA, hx⟩ := Kd.at_bool (Kd.C_below HK.out SS.out.be) (i : Int) (by omega) (by omega)
      subst hA
      obtain ⟨b, hb⟩ : ∃ b, rdOf false tu (i : Int) = b := ⟨_, rfl⟩
      rw [hb] at hx
      replace hx : wr.cell? (ad.add i) = some (.bool b) := by simpa using hx
      obtain ⟨m3, e3⟩ : ∃ m3 : Int, ((i % 3 : Nat) : Int) = m3 := ⟨_, rfl⟩
      have q3 : Int.tmod (i : Int) 3 = m3 := by rw [← e3, Int.tmod_eq_emod_of_nonneg (by omega)]; omega
      have q4 : (i : Int) % 3 = m3 := by rw [← e3]; omega
      have q5 : IntKind.i64.wrap m3 = m3 := by rw [← e3]; simp [IntKind.wrap, IntKind.signed, IntKind.bits]; omega
      clear hb
      have w0_ : IntKind.i64.wrap 0 = 0 := by decide
      have w1_ : IntKind.i64.wrap 1 = 1 := by decide
      cases b
      · skip
        go_wp2
        refine wp_region_text (fun Z => Z.cell? ⟨gv, 0, none⟩ = some (vptr p1) ∧ Z.cell? ⟨gb, 1, none⟩ = some (.slice At C.length ct) ∧ Z.cell? ⟨gn, 1, none⟩ = some (.slice Av M.length cv)) (fun i => [11].contains i) (by kernel_rfl) (by kernel_rfl) ⟨cell_of SS.out.av rfl, cell_of SS.out.ab rfl, cell_of SS.out.an rfl⟩ ?_
        have SD := Aside0.mk SS.out.drew
        clear SS
        generalize wr.drew = wd at SD ⊢
        (apply S_val rfl; (first | exact wanted_none rfl | exact wanted_yes rfl rfl (by kernel_rfl)); (intro Z hZ R hR; have z1 := hZ.1; have z2 := hZ.2.1; have z3 := hZ.2.2; go_simp; exact hR)); go_frame
        (apply S_val rfl; (first | exact wanted_none rfl | exact wanted_yes rfl rfl (by kernel_rfl)); (intro Z hZ R hR; have z1 := hZ.1; have z2 := hZ.2.1; have z3 := hZ.2.2; go_simp; exact hR)); go_frame
        (apply S_val rfl; (first | exact wanted_none rfl | exact wanted_yes rfl rfl (by kernel_rfl)); (intro Z hZ R hR; have z1 := hZ.1; have z2 := hZ.2.1; have z3 := hZ.2.2; go_simp; exact hR)); go_frame
        (apply S_val rfl; (first | exact wanted_none rfl | exact wanted_yes rfl rfl (by kernel_rfl)); (intro Z hZ R hR; have z1 := hZ.1; have z2 := hZ.2.1; have z3 := hZ.2.2; go_simp; exact hR)); go_frame
        (apply S_val rfl; (first | exact wanted_none rfl | exact wanted_yes rfl rfl (by kernel_rfl)); (intro Z hZ R hR; have z1 := hZ.1; have z2 := hZ.2.1; have z3 := hZ.2.2; go_simp; exact hR)); go_frame
        (apply S_val rfl; (first | exact wanted_none rfl | exact wanted_yes rfl rfl (by kernel_rfl)); (intro Z hZ R hR; have z1 := hZ.1; have z2 := hZ.2.1; have z3 := hZ.2.2; go_simp; exact hR)); go_frame
        (apply S_val rfl; (first | exact wanted_none rfl | exact wanted_yes rfl rfl (by kernel_rfl)); (intro Z hZ R hR; have z1 := hZ.1; have z2 := hZ.2.1; have z3 := hZ.2.2; go_simp; exact hR)); go_frame
        (apply S_val rfl; (first | exact wanted_none rfl | exact wanted_yes rfl rfl (by kernel_rfl)); (intro Z hZ R hR; have z1 := hZ.1; have z2 := hZ.2.1; have z3 := hZ.2.2; go_simp; exact hR)); go_frame
        (apply S_val rfl; (first | exact wanted_none rfl | exact wanted_yes rfl rfl (by kernel_rfl)); (intro Z hZ R hR; have z1 := hZ.1; have z2 := hZ.2.1; have z3 := hZ.2.2; go_simp; exact hR)); go_frame
        (apply S_val rfl; (first | exact wanted_none rfl | exact wanted_yes rfl rfl (by kernel_rfl)); (intro Z hZ R hR; have z1 := hZ.1; have z2 := hZ.2.1; have z3 := hZ.2.2; go_simp; exact hR)); go_frame
        (apply S_val rfl; (first | exact wanted_none rfl | exact wanted_yes rfl rfl (by kernel_rfl)); (intro Z hZ R hR; have z1 := hZ.1; have z2 := hZ.2.1; have z3 := hZ.2.2; go_simp; exact hR)); go_frame
        (refine S_call rfl ?_ ?_ (Avoid_calls (c1 := ct) (c2 := cv) SD.out.vp (readsI SD.out.rt).1 (readsI SD.out.rv).1 (by have h_ := TB.out.swap.len; omega) (by have h_ := TN.out.swap.len; omega) (Two.oki (.inl TB.out.swap)) (Two.oki (.inr TN.out.swap))) ?_; (first | exact wanted_none rfl | exact wanted_yes rfl rfl (by kernel_rfl)); (focus (first | (go_simp; done) | (go_simp; rfl)))); rintro e w2 ⟨rfl, b1, b2, n1, n2, r1, r2⟩; have SA := Aside0.mk (SD.out.avoidP n1 n2 r1 r2); refine ⟨_, rfl, ⟨cell_of SA.out.av rfl, cell_of SA.out.ab rfl, cell_of SA.out.an rfl⟩, ?_⟩; clear SD n1 n2 r1 r2; go_frame
        apply S_nil
        have v0 := cell_of SA.out.av (o := 0) rfl
        by_cases h3 : i % 3 = 2
        · have g3 : (m3 == 2) = true := by simp; omega
          have HU := Aside0.mk (fun j : Nat => fun hj : j < 24 => OV.out.used C M (j : Int) (by omega))
          rcases pick_false (fun j => VS.usedN (V.avoid C M) S0 j) 24 with hall | ⟨m, hm2, hm24, hfm, hno⟩
          · have HA := Aside0.mk hall
            have hful := Two.full (lo := 2) (n := 22) TN.out (fun x h1 h2 => by
              obtain ⟨y, rfl⟩ := Int.eq_ofNat_of_zero_le (show 0 ≤ x by omega)
              have e1 := HA.out y (by omega) (by omega)
              have e2 := HU.out y (by omega)
              have e3 : (decide ((y : Int) ∈ N) || decide ((y : Int) ∈ M)) = true := e2.symm.trans e1
              simp at e3
              rcases e3 with h | h
              · exact .inl h
              · exact .inr h)
            have qs : IntKind.i64.wrap ((N.length : Int) + (M.length : Int)) = 22 := by have h_ : (N.length : Int) + (M.length : Int) = 22 := (by omega); rw [h_]; decide
            clear hall hful
            go_wp2_with (go_at_call 12; refine (Node_none SA.out.vp SA.out.mem 2 (by omega) HA.out).mono ?_; rintro e w3 ⟨rfl, hb⟩; have S3 := Aside0.mk (SA.out.below hb); have y0 := cell_of S3.out.an (o := 0) rfl; have y1 := cell_of S3.out.an (o := 1) rfl; clear hb)
            go_roundw
            case rel => exact ⟨i + 1, _, _, _, _, _, _, _, _, _, _, _, _, _, by omega, by omega, by go_num, S3.out, OV.out.avoid _ _, OW.out, TB.out, TN.out⟩
            case measure => simp [intOf]; omega
          · have HFM := Aside0.mk hfm
            have HNO := Aside0.mk hno
            have e2 := (HU.out m hm24).symm.trans hfm
            rw [Bool.or_eq_false_iff, decide_eq_false_iff_not, decide_eq_false_iff_not] at e2
            have T2 := Aside0.mk (TN.out.add e2.1 e2.2 (show 2 ≤ (m : Int) ∧ (m : Int) < 24 by omega))
            have HL := Aside0.mk (show (N.length + 1) * 8 ≤ 140737488355328 by have h_ := TN.out.len; omega)
            have HM := Aside0.mk (show 2 ≤ m ∧ m < 24 from ⟨hm2, hm24⟩)
            clear hfm hno e2 hm2 hm24
            go_wp2_with (first
              | (go_at_call 12; refine (Node_some SA.out.vp SA.out.mem 2 (by omega) m HM.out HNO.out HFM.out).mono ?_; rintro e w3 ⟨rfl, r1, r2⟩; have S4 := Aside0.mk ((SA.out.turnP r2 (fun b hb => by simp at hb; rcases hb with rfl | rfl | rfl <;> exact SA.out.cp _ (by simp [Vp.list])) r1 rfl SA.out.cp).paint w3.heap.size 2 (Nat.le_refl _)); have y0 := cell_of S4.out.an (o := 0) rfl; clear r1 r2)
              | ((with_reducible refine gate_dst (N := 70) rfl ?_); refine Kd.R_append (Kd.int .i64) (w0 := w) w.heap.size rfl (.tmp 67) (.tmp 69) 31 3 (.int .i64 0) 8 rfl Try.underlying31 info3 rfl (by decide) (by omega) (.slice Au N.length cu) N (m : Int) [.int .i64 (m : Int)] _ (fun _ => False) rfl rfl rfl (fun _ hk => hk.elim) (fun k hk => recol_new hk) S4.out.ru S4.out.be S4.out.be.size HL.out ?_; intro z w5 hO hb5 hg5 hn5; obtain ⟨nz, Az, cz, ez⟩ : ∃ nz Az cz, z = .slice Az nz cz := (by obtain ⟨Az, cz, ez⟩ := Kd.R_slice hO; exact ⟨_, Az, cz, ez⟩); subst ez; have R5 := Aside0.mk hO; have B5 := Aside0.mk hb5; have G5 := Aside0.mk hg5; have x5 := keep_block (col := recol (recol col wd.heap.size 5) w3.heap.size 2) (turn_row hg5) S4.out.an (fun b hb => by have h1 := S4.out.ru.1 b (by simpa using hb); have h2 := S4.out.cn.1; omega); have y5 := cell_of x5 (o := 0) rfl; have f5 := frozen_of x5 (o := 0); clear hO hb5 hg5 hn5 x5 y0)
              | ((with_reducible refine gate_store (t := 31) (p := 71) rfl ?_); refine store_event (t := 31) (p := 71) (v := ?vn0_) (w1 := w5.setCell ⟨gn, 0, none⟩ (.slice Az nz cz)) ?hg ?ho ?hn ?hr ?_; (case ho => rfl); (case hg => rfl); (case hn => rfl); (case hr => first | (go_simp; done) | (go_simp; rfl)); intro w6 hw; have S6 := S4.out.addU R5.out G5.out B5.out; rw [← hw] at S6; have S7 := Aside0.mk S6; clear S6 hw y5 f5 R5 B5 G5))
            go_roundw
            case rel => exact ⟨i + 1, _, _, _, _, _, _, _, _, _, _, _, _, _, by omega, by omega, by go_num, S7.out, (OV.out.avoid _ _).node (m : Int) (by have := HM.out; omega), OW.out, TB.out, T2.out⟩
            case measure => simp [intOf]; omega
        · have g3 : (m3 == 2) = false := by simp; omega
          have HU := Aside0.mk (fun j : Nat => fun hj : j < 96 => OV.out.fresh clean_img C M (j : Int) (by omega))
          rcases pick_true (fun j => VS.fresh (V.avoid C M) S0 j) 96 with hall | ⟨m, hm96, hfm, hno⟩
          · have HA := Aside0.mk hall
            have hful := Two.full (lo := 0) (n := 96) TB.out (fun x h1 h2 => by
              obtain ⟨y, rfl⟩ := Int.eq_ofNat_of_zero_le (show 0 ≤ x by omega)
              have e1 := HA.out y (by omega)
              have e2 := HU.out y (by omega)
              have e3 : (!decide ((y : Int) ∈ B) && !decide ((y : Int) ∈ C)) = false := e2.symm.trans e1
              by_cases h : (y : Int) ∈ B
              · exact .inl h
              · have h' : (y : Int) ∈ C := by simpa [h] using e3
                exact .inr h')
            have qs : IntKind.i64.wrap ((B.length : Int) + (C.length : Int)) = 96 := by have h_ : (B.length : Int) + (C.length : Int) = 96 := (by omega); rw [h_]; decide
            clear hall hful
            go_wp2_with (go_at_call 13; refine (Take_none SA.out.vp SA.out.mem 1 (by omega) HA.out).mono ?_; rintro e w3 ⟨rfl, hb⟩; have S3 := Aside0.mk (SA.out.below hb); have y0 := cell_of S3.out.ab (o := 0) rfl; have y1 := cell_of S3.out.ab (o := 1) rfl; clear hb)
            go_roundw
            case rel => exact ⟨i + 1, _, _, _, _, _, _, _, _, _, _, _, _, _, by omega, by omega, by go_num, S3.out, OV.out.avoid _ _, OW.out, TB.out, TN.out⟩
            case measure => simp [intOf]; omega
          · have HFM := Aside0.mk hfm
            have HNO := Aside0.mk hno
            have e2 : (!decide ((m : Int) ∈ B) && !decide ((m : Int) ∈ C)) = true := (HU.out m hm96).symm.trans hfm
            rw [Bool.and_eq_true, Bool.not_eq_true', Bool.not_eq_true', decide_eq_false_iff_not, decide_eq_false_iff_not] at e2
            have T2 := Aside0.mk (TB.out.add e2.1 e2.2 (show 0 ≤ (m : Int) ∧ (m : Int) < 96 by omega))
            have HL := Aside0.mk (show (B.length + 1) * 8 ≤ 140737488355328 by have h_ := TB.out.len; omega)
            have HM := Aside0.mk hm96
            clear hfm hno e2 hm96
            go_wp2_with (first
              | (go_at_call 13; refine (Take_some SA.out.vp SA.out.mem 1 (by omega) m HM.out HNO.out HFM.out).mono ?_; rintro e w3 ⟨rfl, r1, r2⟩; have S4 := Aside0.mk ((SA.out.turnP r2 (fun b hb => by simp at hb; subst hb; exact SA.out.cp _ (by simp [Vp.list])) r1 rfl SA.out.cp).paint w3.heap.size 0 (Nat.le_refl _)); have y0 := cell_of S4.out.ab (o := 0) rfl; clear r1 r2)
              | ((with_reducible refine gate_dst (N := 99) rfl ?_); refine Kd.R_append (Kd.int .i64) (w0 := w) w.heap.size rfl (.tmp 96) (.tmp 98) 31 3 (.int .i64 0) 8 rfl Try.underlying31 info3 rfl (by decide) (by omega) (.slice As B.length cs) B (m : Int) [.int .i64 (m : Int)] _ (fun _ => False) rfl rfl rfl (fun _ hk => hk.elim) (fun k hk => recol_new hk) S4.out.rs S4.out.be S4.out.be.size HL.out ?_; intro z w5 hO hb5 hg5 hn5; obtain ⟨nz, Az, cz, ez⟩ : ∃ nz Az cz, z = .slice Az nz cz := (by obtain ⟨Az, cz, ez⟩ := Kd.R_slice hO; exact ⟨_, Az, cz, ez⟩); subst ez; have R5 := Aside0.mk hO; have B5 := Aside0.mk hb5; have G5 := Aside0.mk hg5; have x5 := keep_block (col := recol (recol col wd.heap.size 5) w3.heap.size 0) (turn_row hg5) S4.out.ab (fun b hb => by have h1 := S4.out.rs.1 b (by simpa using hb); have h2 := S4.out.cb.1; omega); have y5 := cell_of x5 (o := 0) rfl; have f5 := frozen_of x5 (o := 0); clear hO hb5 hg5 hn5 x5 y0)
              | ((with_reducible refine gate_store (t := 31) (p := 100) rfl ?_); refine store_event (t := 31) (p := 100) (v := ?vb0_) (w1 := w5.setCell ⟨gb, 0, none⟩ (.slice Az nz cz)) ?hg ?ho ?hn ?hr ?_; (case ho => rfl); (case hg => rfl); (case hn => rfl); (case hr => first | (go_simp; done) | (go_simp; rfl)); intro w6 hw; have S6 := S4.out.addS R5.out G5.out B5.out; rw [← hw] at S6; have S7 := Aside0.mk S6; clear S6 hw y5 f5 R5 B5 G5))
            go_roundw
            case rel => exact ⟨i + 1, _, _, _, _, _, _, _, _, _, _, _, _, _, by omega, by omega, by go_num, S7.out, (OV.out.avoid _ _).take (m : Int) (by have := HM.out; omega), OW.out, T2.out, TN.out⟩
            case measure => simp [intOf]; omega
      · skip
        go_wp2
        refine wp_region_text (fun Z => Z.cell? ⟨gv, 1, none⟩ = some (vptr q1) ∧ Z.cell? ⟨gb, 0, none⟩ = some (.slice As B.length cs) ∧ Z.cell? ⟨gn, 0, none⟩ = some (.slice Au N.length cu)) (fun i => [11].contains i) (by kernel_rfl) (by kernel_rfl) ⟨cell_of SS.out.av rfl, cell_of SS.out.ab rfl, cell_of SS.out.an rfl⟩ ?_
        have SD := Aside0.mk SS.out.drew
        clear SS
        generalize wr.drew = wd at SD ⊢
        (apply S_val rfl; (first | exact wanted_none rfl | exact wanted_yes rfl rfl (by kernel_rfl)); (intro Z hZ R hR; have z1 := hZ.1; have z2 := hZ.2.1; have z3 := hZ.2.2; go_simp; exact hR)); go_frame
        (apply S_val rfl; (first | exact wanted_none rfl | exact wanted_yes rfl rfl (by kernel_rfl)); (intro Z hZ R hR; have z1 := hZ.1; have z2 := hZ.2.1; have z3 := hZ.2.2; go_simp; exact hR)); go_frame
        (apply S_val rfl; (first | exact wanted_none rfl | exact wanted_yes rfl rfl (by kernel_rfl)); (intro Z hZ R hR; have z1 := hZ.1; have z2 := hZ.2.1; have z3 := hZ.2.2; go_simp; exact hR)); go_frame
        (apply S_val rfl; (first | exact wanted_none rfl | exact wanted_yes rfl rfl (by kernel_rfl)); (intro Z hZ R hR; have z1 := hZ.1; have z2 := hZ.2.1; have z3 := hZ.2.2; go_simp; exact hR)); go_frame
        (apply S_val rfl; (first | exact wanted_none rfl | exact wanted_yes rfl rfl (by kernel_rfl)); (intro Z hZ R hR; have z1 := hZ.1; have z2 := hZ.2.1; have z3 := hZ.2.2; go_simp; exact hR)); go_frame
        (apply S_val rfl; (first | exact wanted_none rfl | exact wanted_yes rfl rfl (by kernel_rfl)); (intro Z hZ R hR; have z1 := hZ.1; have z2 := hZ.2.1; have z3 := hZ.2.2; go_simp; exact hR)); go_frame
        (apply S_val rfl; (first | exact wanted_none rfl | exact wanted_yes rfl rfl (by kernel_rfl)); (intro Z hZ R hR; have z1 := hZ.1; have z2 := hZ.2.1; have z3 := hZ.2.2; go_simp; exact hR)); go_frame
        (apply S_val rfl; (first | exact wanted_none rfl | exact wanted_yes rfl rfl (by kernel_rfl)); (intro Z hZ R hR; have z1 := hZ.1; have z2 := hZ.2.1; have z3 := hZ.2.2; go_simp; exact hR)); go_frame
        (apply S_val rfl; (first | exact wanted_none rfl | exact wanted_yes rfl rfl (by kernel_rfl)); (intro Z hZ R hR; have z1 := hZ.1; have z2 := hZ.2.1; have z3 := hZ.2.2; go_simp; exact hR)); go_frame
        (apply S_val rfl; (first | exact wanted_none rfl | exact wanted_yes rfl rfl (by kernel_rfl)); (intro Z hZ R hR; have z1 := hZ.1; have z2 := hZ.2.1; have z3 := hZ.2.2; go_simp; exact hR)); go_frame
        (apply S_val rfl; (first | exact wanted_none rfl | exact wanted_yes rfl rfl (by kernel_rfl)); (intro Z hZ R hR; have z1 := hZ.1; have z2 := hZ.2.1; have z3 := hZ.2.2; go_simp; exact hR)); go_frame
        (refine S_call rfl ?_ ?_ (Avoid_calls (c1 := cs) (c2 := cu) SD.out.vq (readsI SD.out.rs).1 (readsI SD.out.ru).1 (by have h_ := TB.out.len; omega) (by have h_ := TN.out.len; omega) (Two.oki (.inl TB.out)) (Two.oki (.inr TN.out))) ?_; (first | exact wanted_none rfl | exact wanted_yes rfl rfl (by kernel_rfl)); (focus (first | (go_simp; done) | (go_simp; rfl)))); rintro e w2 ⟨rfl, b1, b2, n1, n2, r1, r2⟩; have SA := Aside0.mk (SD.out.avoidQ n1 n2 r1 r2); refine ⟨_, rfl, ⟨cell_of SA.out.av rfl, cell_of SA.out.ab rfl, cell_of SA.out.an rfl⟩, ?_⟩; clear SD n1 n2 r1 r2; go_frame
        apply S_nil
        have v0 := cell_of SA.out.av (o := 1) rfl
        by_cases h3 : i % 3 = 2
        · have g3 : (m3 == 2) = true := by simp; omega
          have HU := Aside0.mk (fun j : Nat => fun hj : j < 24 => OW.out.used B N (j : Int) (by omega))
          rcases pick_false (fun j => VS.usedN (W.avoid B N) S0 j) 24 with hall | ⟨m, hm2, hm24, hfm, hno⟩
          · have HA := Aside0.mk hall
            have hful := Two.full (lo := 2) (n := 22) TN.out (fun x h1 h2 => by
              obtain ⟨y, rfl⟩ := Int.eq_ofNat_of_zero_le (show 0 ≤ x by omega)
              have e1 := HA.out y (by omega) (by omega)
              have e2 := HU.out y (by omega)
              have e3 : (decide ((y : Int) ∈ M) || decide ((y : Int) ∈ N)) = true := e2.symm.trans e1
              simp at e3
              rcases e3 with h | h
              · exact .inr h
              · exact .inl h)
            have qs : IntKind.i64.wrap ((N.length : Int) + (M.length : Int)) = 22 := by have h_ : (N.length : Int) + (M.length : Int) = 22 := (by omega); rw [h_]; decide
            clear hall hful
            go_wp2_with (go_at_call 12; refine (Node_none SA.out.vq SA.out.mem 2 (by omega) HA.out).mono ?_; rintro e w3 ⟨rfl, hb⟩; have S3 := Aside0.mk (SA.out.below hb); have y0 := cell_of S3.out.an (o := 0) rfl; have y1 := cell_of S3.out.an (o := 1) rfl; clear hb)
            go_roundw
            case rel => exact ⟨i + 1, _, _, _, _, _, _, _, _, _, _, _, _, _, by omega, by omega, by go_num, S3.out, OV.out, OW.out.avoid _ _, TB.out, TN.out⟩
            case measure => simp [intOf]; omega
          · have HFM := Aside0.mk hfm
            have HNO := Aside0.mk hno
            have e2 := (HU.out m hm24).symm.trans hfm
            rw [Bool.or_eq_false_iff, decide_eq_false_iff_not, decide_eq_false_iff_not] at e2
            have T2 := Aside0.mk (TN.out.swap.add e2.1 e2.2 (show 2 ≤ (m : Int) ∧ (m : Int) < 24 by omega))
            have HL := Aside0.mk (show (M.length + 1) * 8 ≤ 140737488355328 by have h_ := TN.out.swap.len; omega)
            have HM := Aside0.mk (show 2 ≤ m ∧ m < 24 from ⟨hm2, hm24⟩)
            clear hfm hno e2 hm2 hm24
            go_wp2_with (first
              | (go_at_call 12; refine (Node_some SA.out.vq SA.out.mem 2 (by omega) m HM.out HNO.out HFM.out).mono ?_; rintro e w3 ⟨rfl, r1, r2⟩; have S4 := Aside0.mk ((SA.out.turnQ r2 (fun b hb => by simp at hb; rcases hb with rfl | rfl | rfl <;> exact SA.out.cq _ (by simp [Vp.list])) r1 rfl SA.out.cq).paint w3.heap.size 3 (Nat.le_refl _)); have y0 := cell_of S4.out.an (o := 1) rfl; clear r1 r2)
              | ((with_reducible refine gate_dst (N := 70) rfl ?_); refine Kd.R_append (Kd.int .i64) (w0 := w) w.heap.size rfl (.tmp 67) (.tmp 69) 31 3 (.int .i64 0) 8 rfl Try.underlying31 info3 rfl (by decide) (by omega) (.slice Av M.length cv) M (m : Int) [.int .i64 (m : Int)] _ (fun _ => False) rfl rfl rfl (fun _ hk => hk.elim) (fun k hk => recol_new hk) S4.out.rv S4.out.be S4.out.be.size HL.out ?_; intro z w5 hO hb5 hg5 hn5; obtain ⟨nz, Az, cz, ez⟩ : ∃ nz Az cz, z = .slice Az nz cz := (by obtain ⟨Az, cz, ez⟩ := Kd.R_slice hO; exact ⟨_, Az, cz, ez⟩); subst ez; have R5 := Aside0.mk hO; have B5 := Aside0.mk hb5; have G5 := Aside0.mk hg5; have x5 := keep_block (col := recol (recol col wd.heap.size 6) w3.heap.size 3) (turn_row hg5) S4.out.an (fun b hb => by have h1 := S4.out.rv.1 b (by simpa using hb); have h2 := S4.out.cn.1; omega); have y5 := cell_of x5 (o := 1) rfl; have f5 := frozen_of x5 (o := 1); clear hO hb5 hg5 hn5 x5 y0)
              | ((with_reducible refine gate_store (t := 31) (p := 71) rfl ?_); refine store_event (t := 31) (p := 71) (v := ?vn1_) (w1 := w5.setCell ⟨gn, 1, none⟩ (.slice Az nz cz)) ?hg ?ho ?hn ?hr ?_; (case ho => rfl); (case hg => rfl); (case hn => rfl); (case hr => first | (go_simp; done) | (go_simp; rfl)); intro w6 hw; have S6 := S4.out.addV R5.out G5.out B5.out; rw [← hw] at S6; have S7 := Aside0.mk S6; clear S6 hw y5 f5 R5 B5 G5))
            go_roundw
            case rel => exact ⟨i + 1, _, _, _, _, _, _, _, _, _, _, _, _, _, by omega, by omega, by go_num, S7.out, OV.out, (OW.out.avoid _ _).node (m : Int) (by have := HM.out; omega), TB.out, T2.out.swap⟩
            case measure => simp [intOf]; omega
        · have g3 : (m3 == 2) = false := by simp; omega
          have HU := Aside0.mk (fun j : Nat => fun hj : j < 96 => OW.out.fresh clean_img B N (j : Int) (by omega))
          rcases pick_true (fun j => VS.fresh (W.avoid B N) S0 j) 96 with hall | ⟨m, hm96, hfm, hno⟩
          · have HA := Aside0.mk hall
            have hful := Two.full (lo := 0) (n := 96) TB.out (fun x h1 h2 => by
              obtain ⟨y, rfl⟩ := Int.eq_ofNat_of_zero_le (show 0 ≤ x by omega)
              have e1 := HA.out y (by omega)
              have e2 := HU.out y (by omega)
              have e3 : (!decide ((y : Int) ∈ C) && !decide ((y : Int) ∈ B)) = false := e2.symm.trans e1
              by_cases h : (y : Int) ∈ C
              · exact .inr h
              · have h' : (y : Int) ∈ B := by simpa [h] using e3
                exact .inl h')
            have qs : IntKind.i64.wrap ((B.length : Int) + (C.length : Int)) = 96 := by have h_ : (B.length : Int) + (C.length : Int) = 96 := (by omega); rw [h_]; decide
            clear hall hful
            go_wp2_with (go_at_call 13; refine (Take_none SA.out.vq SA.out.mem 1 (by omega) HA.out).mono ?_; rintro e w3 ⟨rfl, hb⟩; have S3 := Aside0.mk (SA.out.below hb); have y0 := cell_of S3.out.ab (o := 0) rfl; have y1 := cell_of S3.out.ab (o := 1) rfl; clear hb)
            go_roundw
            case rel => exact ⟨i + 1, _, _, _, _, _, _, _, _, _, _, _, _, _, by omega, by omega, by go_num, S3.out, OV.out, OW.out.avoid _ _, TB.out, TN.out⟩
            case measure => simp [intOf]; omega
          · have HFM := Aside0.mk hfm
            have HNO := Aside0.mk hno
            have e2 : (!decide ((m : Int) ∈ C) && !decide ((m : Int) ∈ B)) = true := (HU.out m hm96).symm.trans hfm
            rw [Bool.and_eq_true, Bool.not_eq_true', Bool.not_eq_true', decide_eq_false_iff_not, decide_eq_false_iff_not] at e2
            have T2 := Aside0.mk (TB.out.swap.add e2.1 e2.2 (show 0 ≤ (m : Int) ∧ (m : Int) < 96 by omega))
            have HL := Aside0.mk (show (C.length + 1) * 8 ≤ 140737488355328 by have h_ := TB.out.swap.len; omega)
            have HM := Aside0.mk hm96
            clear hfm hno e2 hm96
            go_wp2_with (first
              | (go_at_call 13; refine (Take_some SA.out.vq SA.out.mem 1 (by omega) m HM.out HNO.out HFM.out).mono ?_; rintro e w3 ⟨rfl, r1, r2⟩; have S4 := Aside0.mk ((SA.out.turnQ r2 (fun b hb => by simp at hb; subst hb; exact SA.out.cq _ (by simp [Vp.list])) r1 rfl SA.out.cq).paint w3.heap.size 1 (Nat.le_refl _)); have y0 := cell_of S4.out.ab (o := 1) rfl; clear r1 r2)
              | ((with_reducible refine gate_dst (N := 99) rfl ?_); refine Kd.R_append (Kd.int .i64) (w0 := w) w.heap.size rfl (.tmp 96) (.tmp 98) 31 3 (.int .i64 0) 8 rfl Try.underlying31 info3 rfl (by decide) (by omega) (.slice At C.length ct) C (m : Int) [.int .i64 (m : Int)] _ (fun _ => False) rfl rfl rfl (fun _ hk => hk.elim) (fun k hk => recol_new hk) S4.out.rt S4.out.be S4.out.be.size HL.out ?_; intro z w5 hO hb5 hg5 hn5; obtain ⟨nz, Az, cz, ez⟩ : ∃ nz Az cz, z = .slice Az nz cz := (by obtain ⟨Az, cz, ez⟩ := Kd.R_slice hO; exact ⟨_, Az, cz, ez⟩); subst ez; have R5 := Aside0.mk hO; have B5 := Aside0.mk hb5; have G5 := Aside0.mk hg5; have x5 := keep_block (col := recol (recol col wd.heap.size 6) w3.heap.size 1) (turn_row hg5) S4.out.ab (fun b hb => by have h1 := S4.out.rt.1 b (by simpa using hb); have h2 := S4.out.cb.1; omega); have y5 := cell_of x5 (o := 1) rfl; have f5 := frozen_of x5 (o := 1); clear hO hb5 hg5 hn5 x5 y0)
              | ((with_reducible refine gate_store (t := 31) (p := 100) rfl ?_); refine store_event (t := 31) (p := 100) (v := ?vb1_) (w1 := w5.setCell ⟨gb, 1, none⟩ (.slice Az nz cz)) ?hg ?ho ?hn ?hr ?_; (case ho => rfl); (case hg => rfl); (case hn => rfl); (case hr => first | (go_simp; done) | (go_simp; rfl)); intro w6 hw; have S6 := S4.out.addT R5.out G5.out B5.out; rw [← hw] at S6; have S7 := Aside0.mk S6; clear S6 hw y5 f5 R5 B5 G5))
            go_roundw
            case rel => exact ⟨i + 1, _, _, _, _, _, _, _, _, _, _, _, _, _, by omega, by omega, by go_num, S7.out, OV.out, (OW.out.avoid _ _).take (m : Int) (by have := HM.out; omega), T2.out.swap, TN.out⟩
            case measure => simp [intOf]; omega
    · have hend : (decide ((i : Int) < (tu.length : Int)) = false ∧ (i < tu.length) = False) ∨ (decide ((i : Int) < (tu.length : Int)) = true ∧ decide ((i : Int) < 260) = false ∧ (i < tu.length) = True ∧ ((i : Int) < 260) = False) := by
        by_cases h : i < tu.length
        · exact .inr ⟨decide_eq_true (by omega), decide_eq_false (by omega), eq_true h, eq_false (by omega)⟩
        · exact .inl ⟨decide_eq_false (by omega), eq_false h⟩
      have w0_ : IntKind.i64.wrap 0 = 0 := by decide
      have w1_ : IntKind.i64.wrap 1 = 1 := by decide
      clear hlt hi hi2
      rcases hend with ⟨g1, g4⟩ | ⟨g1, g2, g4, g5⟩
      · skip
        go_wp2
        go_loopw [13] (fun x wz => ∃ k : Int, (k = 0 ∨ k = 1 ∨ k = 2) ∧ x = .int .i64 k ∧ St w wz col f gv gb gn p1 q1 V W (.slice As B.length cs) (.slice At C.length ct) (.slice Au N.length cu) (.slice Av M.length cv) B C N M) (fun x _ => 10 - (intOf x).toNat)
        case atStart => exact ⟨0, by omega, rfl, SS.out⟩
        case round =>
          obtain ⟨k, hk, rfl, hsz⟩ := hrel
          have SZ := Aside0.mk hsz
          clear hsz SS
          rcases hk with rfl | rfl | rfl
          · skip
            go_wp2
            go_loopw [14] (fun x wy => ∃ j : Nat, j ≤ B.length ∧ x = .int .i64 (j : Int) ∧ St w wy col f gv gb gn p1 q1 V W (.slice As B.length cs) (.slice At C.length ct) (.slice Au N.length cu) (.slice Av M.length cv) B C N M) (fun x _ => B.length - (intOf x).toNat)
            case atStart => exact ⟨0, by omega, rfl, SZ.out⟩
            case round =>
              obtain ⟨j, hj', rfl, hsy⟩ := hrel
              clear SZ
              have SY := Aside0.mk hsy
              clear hsy
              have a0_ := cell_of SY.out.ab (o := 0) rfl
              have hbl : B.length ≤ 96 := by have h_ := TB.out.len; omega
              have hwk : wrap64 ((j : Int) + 1) = ((j + 1 : Nat) : Int) := by unfold wrap64; omega
              have hwj : IntKind.i64.wrap ((j : Int) + 1) = ((j + 1 : Nat) : Int) := by simp [IntKind.wrap, IntKind.signed, IntKind.bits]; omega
              by_cases hj : j < B.length
              · have gj : decide ((j : Int) < (B.length : Int)) = true := decide_eq_true (by omega)
                obtain ⟨x, hx⟩ : ∃ x, B[j]? = some x := ⟨_, List.getElem?_eq_getElem hj⟩
                obtain ⟨ade, hA, hc0⟩ := Kd.at_int (readsI SY.out.rs).1 (j : Int) (by omega) (by omega)
                subst hA
                clear hc0
                have HX := Aside0.mk hx
                have hcap := (readsI SY.out.rs).2
                have hjc : j ≤ cs := by omega
                have HN1 := Aside0.mk (TB.out.ap x (List.mem_of_getElem? hx))
                have HN2 := Aside0.mk (not_before TB.out.nl hx)
                have HJ := Aside0.mk hj
                have hjl : (j : Int) < (B.length : Int) := by omega
                have hj0 : 0 ≤ (j : Int) := by omega
                have hjc2 : (j : Int) ≤ (cs : Int) := by omega
                clear hx
                go_wp2
                refine wp_region_text (fun Z => Z.cell? ⟨gb, 0, none⟩ = some (.slice (some ade) B.length cs) ∧ Z.cell? ⟨gb, 1, none⟩ = some (.slice At C.length ct) ∧ Z.cell? (ade.add j) = some (.int .i64 x)) (fun i => [10, 23].contains i) (by kernel_rfl) (by kernel_rfl) ⟨cell_of SY.out.ab rfl, cell_of SY.out.ab rfl, elem_at (readsI SY.out.rs).1 j HX.out⟩ ?_
                have SD := Aside0.mk SY.out.drew
                clear SY
                generalize wr.drew = wd at SD ⊢
                (apply S_val rfl; (first | exact wanted_none rfl | exact wanted_yes rfl rfl (by kernel_rfl)); (intro Z hZ R hR; have z1 := hZ.1; have z2 := hZ.2.1; have z3 := hZ.2.2; go_simp; exact hR)); go_frame
                (apply S_val rfl; (first | exact wanted_none rfl | exact wanted_yes rfl rfl (by kernel_rfl)); (intro Z hZ R hR; have z1 := hZ.1; have z2 := hZ.2.1; have z3 := hZ.2.2; go_simp; exact hR)); go_frame
                (apply S_val rfl; (first | exact wanted_none rfl | exact wanted_yes rfl rfl (by kernel_rfl)); (intro Z hZ R hR; have z1 := hZ.1; have z2 := hZ.2.1; have z3 := hZ.2.2; go_simp; exact hR)); go_frame
                (apply S_val rfl; (first | exact wanted_none rfl | exact wanted_yes rfl rfl (by kernel_rfl)); (intro Z hZ R hR; have z1 := hZ.1; have z2 := hZ.2.1; have z3 := hZ.2.2; go_simp; exact hR)); go_frame
                (apply S_val rfl; (first | exact wanted_none rfl | exact wanted_yes rfl rfl (by kernel_rfl)); (intro Z hZ R hR; have z1 := hZ.1; have z2 := hZ.2.1; have z3 := hZ.2.2; go_simp; exact hR)); go_frame
                (apply S_val rfl; (first | exact wanted_none rfl | exact wanted_yes rfl rfl (by kernel_rfl)); (intro Z hZ R hR; have z1 := hZ.1; have z2 := hZ.2.1; have z3 := hZ.2.2; go_simp; exact hR)); go_frame
                (apply S_val rfl; (first | exact wanted_none rfl | exact wanted_yes rfl rfl (by kernel_rfl)); (intro Z hZ R hR; have z1 := hZ.1; have z2 := hZ.2.1; have z3 := hZ.2.2; go_simp; exact hR)); go_frame
                (apply S_val rfl; (first | exact wanted_none rfl | exact wanted_yes rfl rfl (by kernel_rfl)); (intro Z hZ R hR; have z1 := hZ.1; have z2 := hZ.2.1; have z3 := hZ.2.2; go_simp; exact hR)); go_frame
                (apply S_val rfl; (first | exact wanted_none rfl | exact wanted_yes rfl rfl (by kernel_rfl)); (intro Z hZ R hR; have z1 := hZ.1; have z2 := hZ.2.1; have z3 := hZ.2.2; go_simp; exact hR)); go_frame
                (apply S_val rfl; (first | exact wanted_none rfl | exact wanted_yes rfl rfl (by kernel_rfl)); (intro Z hZ R hR; have z1 := hZ.1; have z2 := hZ.2.1; have z3 := hZ.2.2; go_simp; exact hR)); go_frame
                (refine S_call rfl ?_ ?_ (Has_as C.length rfl (readsI SD.out.rt).1 (readsI SD.out.rt).2 false (decide_eq_false HN1.out)) ?_; (first | exact wanted_none rfl | exact wanted_yes rfl rfl (by kernel_rfl)); (focus (first | (go_simp; done) | (go_simp; rfl)))); rintro e we ⟨rfl, hb⟩; have SE := Aside0.mk (SD.out.below hb); refine ⟨_, rfl, ⟨cell_of SE.out.ab rfl, cell_of SE.out.ab rfl, elem_at (readsI SE.out.rs).1 j HX.out⟩, ?_⟩; clear hb; go_frame
                (apply S_val rfl; (first | exact wanted_none rfl | exact wanted_yes rfl rfl (by kernel_rfl)); (intro Z hZ R hR; have z1 := hZ.1; have z2 := hZ.2.1; have z3 := hZ.2.2; go_simp; exact hR)); go_frame
                (apply S_val rfl; (first | exact wanted_none rfl | exact wanted_yes rfl rfl (by kernel_rfl)); (intro Z hZ R hR; have z1 := hZ.1; have z2 := hZ.2.1; have z3 := hZ.2.2; go_simp; exact hR)); go_frame
                (apply S_val rfl; (first | exact wanted_none rfl | exact wanted_yes rfl rfl (by kernel_rfl)); (intro Z hZ R hR; have z1 := hZ.1; have z2 := hZ.2.1; have z3 := hZ.2.2; go_simp; exact hR)); go_frame
                (apply S_val rfl; (first | exact wanted_none rfl | exact wanted_yes rfl rfl (by kernel_rfl)); (intro Z hZ R hR; have z1 := hZ.1; have z2 := hZ.2.1; have z3 := hZ.2.2; go_simp; exact hR)); go_frame
                (apply S_val rfl; (first | exact wanted_none rfl | exact wanted_yes rfl rfl (by kernel_rfl)); (intro Z hZ R hR; have z1 := hZ.1; have z2 := hZ.2.1; have z3 := hZ.2.2; go_simp; exact hR)); go_frame
                (apply S_val rfl; (first | exact wanted_none rfl | exact wanted_yes rfl rfl (by kernel_rfl)); (intro Z hZ R hR; have z1 := hZ.1; have z2 := hZ.2.1; have z3 := hZ.2.2; go_simp; exact hR)); go_frame
                (apply S_val rfl; (first | exact wanted_none rfl | exact wanted_yes rfl rfl (by kernel_rfl)); (intro Z hZ R hR; have z1 := hZ.1; have z2 := hZ.2.1; have z3 := hZ.2.2; go_simp; exact hR)); go_frame
                (apply S_val rfl; (first | exact wanted_none rfl | exact wanted_yes rfl rfl (by kernel_rfl)); (intro Z hZ R hR; have z1 := hZ.1; have z2 := hZ.2.1; have z3 := hZ.2.2; go_simp; exact hR)); go_frame
                (apply S_val rfl; (first | exact wanted_none rfl | exact wanted_yes rfl rfl (by kernel_rfl)); (intro Z hZ R hR; have z1 := hZ.1; have z2 := hZ.2.1; have z3 := hZ.2.2; go_simp; exact hR)); go_frame
                (apply S_val rfl; (first | exact wanted_none rfl | exact wanted_yes rfl rfl (by kernel_rfl)); (intro Z hZ R hR; have z1 := hZ.1; have z2 := hZ.2.1; have z3 := hZ.2.2; go_simp; exact hR)); go_frame
                (apply S_val rfl; (first | exact wanted_none rfl | exact wanted_yes rfl rfl (by kernel_rfl)); (intro Z hZ R hR; have z1 := hZ.1; have z2 := hZ.2.1; have z3 := hZ.2.2; go_simp; exact hR)); go_frame
                (apply S_val rfl; (first | exact wanted_none rfl | exact wanted_yes rfl rfl (by kernel_rfl)); (intro Z hZ R hR; have z1 := hZ.1; have z2 := hZ.2.1; have z3 := hZ.2.2; go_simp; exact hR)); go_frame
                (refine S_call rfl ?_ ?_ (Has_as j (by rw [List.length_take]; have := HJ.out; omega) (C_take (readsI SE.out.rs).1 j (by have := HJ.out; omega)) hjc false (decide_eq_false HN2.out)) ?_; (first | exact wanted_none rfl | exact wanted_yes rfl rfl (by kernel_rfl)); (focus (first | (go_simp; done) | (go_simp; rfl)))); rintro e wf ⟨rfl, hb⟩; have SF := Aside0.mk (SE.out.below hb); refine ⟨_, rfl, ⟨cell_of SF.out.ab rfl, cell_of SF.out.ab rfl, elem_at (readsI SF.out.rs).1 j HX.out⟩, ?_⟩; clear hb; go_frame
                (apply S_val rfl; (first | exact wanted_none rfl | exact wanted_yes rfl rfl (by kernel_rfl)); (intro Z hZ R hR; have z1 := hZ.1; have z2 := hZ.2.1; have z3 := hZ.2.2; go_simp; exact hR)); go_frame
                apply S_nil
                go_wp2
                go_roundw
                case rel => exact ⟨j + 1, by omega, by go_num, SF.out⟩
                case measure => simp [intOf, hwk, hwj]; omega
              · have gj : decide ((j : Int) < (B.length : Int)) = false := decide_eq_false (by omega)
                have gjn : (j < B.length) = False := eq_false hj
                go_wp2
                go_loopw [15] (fun x wy => ∃ j : Nat, j ≤ N.length ∧ x = .int .i64 (j : Int) ∧ St w wy col f gv gb gn p1 q1 V W (.slice As B.length cs) (.slice At C.length ct) (.slice Au N.length cu) (.slice Av M.length cv) B C N M) (fun x _ => N.length - (intOf x).toNat)
                case atStart => exact ⟨0, by omega, rfl, SY.out⟩
                case round =>
                  obtain ⟨j, hj', rfl, hsy⟩ := hrel
                  clear SY
                  have SY := Aside0.mk hsy
                  clear hsy
                  have a0_ := cell_of SY.out.an (o := 0) rfl
                  have hbl : N.length ≤ 96 := by have h_ := TN.out.len; omega
                  have hwk : wrap64 ((j : Int) + 1) = ((j + 1 : Nat) : Int) := by unfold wrap64; omega
                  have hwj : IntKind.i64.wrap ((j : Int) + 1) = ((j + 1 : Nat) : Int) := by simp [IntKind.wrap, IntKind.signed, IntKind.bits]; omega
                  by_cases hj : j < N.length
                  · have gj : decide ((j : Int) < (N.length : Int)) = true := decide_eq_true (by omega)
                    obtain ⟨x, hx⟩ : ∃ x, N[j]? = some x := ⟨_, List.getElem?_eq_getElem hj⟩
                    obtain ⟨ade, hA, hc0⟩ := Kd.at_int (readsI SY.out.ru).1 (j : Int) (by omega) (by omega)
                    subst hA
                    clear hc0
                    have HX := Aside0.mk hx
                    have hcap := (readsI SY.out.ru).2
                    have hjc : j ≤ cu := by omega
                    have HN1 := Aside0.mk (TN.out.ap x (List.mem_of_getElem? hx))
                    have HN2 := Aside0.mk (not_before TN.out.nl hx)
                    have HJ := Aside0.mk hj
                    have hjl : (j : Int) < (N.length : Int) := by omega
                    have hj0 : 0 ≤ (j : Int) := by omega
                    have hjc2 : (j : Int) ≤ (cu : Int) := by omega
                    clear hx
                    go_wp2
                    refine wp_region_text (fun Z => Z.cell? ⟨gn, 0, none⟩ = some (.slice (some ade) N.length cu) ∧ Z.cell? ⟨gn, 1, none⟩ = some (.slice Av M.length cv) ∧ Z.cell? (ade.add j) = some (.int .i64 x)) (fun i => [10, 23].contains i) (by kernel_rfl) (by kernel_rfl) ⟨cell_of SY.out.an rfl, cell_of SY.out.an rfl, elem_at (readsI SY.out.ru).1 j HX.out⟩ ?_
                    have SD := Aside0.mk SY.out.drew
                    clear SY
                    generalize wr.drew = wd at SD ⊢
                    (apply S_val rfl; (first | exact wanted_none rfl | exact wanted_yes rfl rfl (by kernel_rfl)); (intro Z hZ R hR; have z1 := hZ.1; have z2 := hZ.2.1; have z3 := hZ.2.2; go_simp; exact hR)); go_frame
                    (apply S_val rfl; (first | exact wanted_none rfl | exact wanted_yes rfl rfl (by kernel_rfl)); (intro Z hZ R hR; have z1 := hZ.1; have z2 := hZ.2.1; have z3 := hZ.2.2; go_simp; exact hR)); go_frame
                    (apply S_val rfl; (first | exact wanted_none rfl | exact wanted_yes rfl rfl (by kernel_rfl)); (intro Z hZ R hR; have z1 := hZ.1; have z2 := hZ.2.1; have z3 := hZ.2.2; go_simp; exact hR)); go_frame
                    (apply S_val rfl; (first | exact wanted_none rfl | exact wanted_yes rfl rfl (by kernel_rfl)); (intro Z hZ R hR; have z1 := hZ.1; have z2 := hZ.2.1; have z3 := hZ.2.2; go_simp; exact hR)); go_frame
                    (apply S_val rfl; (first | exact wanted_none rfl | exact wanted_yes rfl rfl (by kernel_rfl)); (intro Z hZ R hR; have z1 := hZ.1; have z2 := hZ.2.1; have z3 := hZ.2.2; go_simp; exact hR)); go_frame
                    (apply S_val rfl; (first | exact wanted_none rfl | exact wanted_yes rfl rfl (by kernel_rfl)); (intro Z hZ R hR; have z1 := hZ.1; have z2 := hZ.2.1; have z3 := hZ.2.2; go_simp; exact hR)); go_frame
                    (apply S_val rfl; (first | exact wanted_none rfl | exact wanted_yes rfl rfl (by kernel_rfl)); (intro Z hZ R hR; have z1 := hZ.1; have z2 := hZ.2.1; have z3 := hZ.2.2; go_simp; exact hR)); go_frame
                    (apply S_val rfl; (first | exact wanted_none rfl | exact wanted_yes rfl rfl (by kernel_rfl)); (intro Z hZ R hR; have z1 := hZ.1; have z2 := hZ.2.1; have z3 := hZ.2.2; go_simp; exact hR)); go_frame
                    (apply S_val rfl; (first | exact wanted_none rfl | exact wanted_yes rfl rfl (by kernel_rfl)); (intro Z hZ R hR; have z1 := hZ.1; have z2 := hZ.2.1; have z3 := hZ.2.2; go_simp; exact hR)); go_frame
                    (apply S_val rfl; (first | exact wanted_none rfl | exact wanted_yes rfl rfl (by kernel_rfl)); (intro Z hZ R hR; have z1 := hZ.1; have z2 := hZ.2.1; have z3 := hZ.2.2; go_simp; exact hR)); go_frame
                    (refine S_call rfl ?_ ?_ (Has_as M.length rfl (readsI SD.out.rv).1 (readsI SD.out.rv).2 false (decide_eq_false HN1.out)) ?_; (first | exact wanted_none rfl | exact wanted_yes rfl rfl (by kernel_rfl)); (focus (first | (go_simp; done) | (go_simp; rfl)))); rintro e we ⟨rfl, hb⟩; have SE := Aside0.mk (SD.out.below hb); refine ⟨_, rfl, ⟨cell_of SE.out.an rfl, cell_of SE.out.an rfl, elem_at (readsI SE.out.ru).1 j HX.out⟩, ?_⟩; clear hb; go_frame
                    (apply S_val rfl; (first | exact wanted_none rfl | exact wanted_yes rfl rfl (by kernel_rfl)); (intro Z hZ R hR; have z1 := hZ.1; have z2 := hZ.2.1; have z3 := hZ.2.2; go_simp; exact hR)); go_frame
                    (apply S_val rfl; (first | exact wanted_none rfl | exact wanted_yes rfl rfl (by kernel_rfl)); (intro Z hZ R hR; have z1 := hZ.1; have z2 := hZ.2.1; have z3 := hZ.2.2; go_simp; exact hR)); go_frame
                    (apply S_val rfl; (first | exact wanted_none rfl | exact wanted_yes rfl rfl (by kernel_rfl)); (intro Z hZ R hR; have z1 := hZ.1; have z2 := hZ.2.1; have z3 := hZ.2.2; go_simp; exact hR)); go_frame
                    (apply S_val rfl; (first | exact wanted_none rfl | exact wanted_yes rfl rfl (by kernel_rfl)); (intro Z hZ R hR; have z1 := hZ.1; have z2 := hZ.2.1; have z3 := hZ.2.2; go_simp; exact hR)); go_frame
                    (apply S_val rfl; (first | exact wanted_none rfl | exact wanted_yes rfl rfl (by kernel_rfl)); (intro Z hZ R hR; have z1 := hZ.1; have z2 := hZ.2.1; have z3 := hZ.2.2; go_simp; exact hR)); go_frame
                    (apply S_val rfl; (first | exact wanted_none rfl | exact wanted_yes rfl rfl (by kernel_rfl)); (intro Z hZ R hR; have z1 := hZ.1; have z2 := hZ.2.1; have z3 := hZ.2.2; go_simp; exact hR)); go_frame
                    (apply S_val rfl; (first | exact wanted_none rfl | exact wanted_yes rfl rfl (by kernel_rfl)); (intro Z hZ R hR; have z1 := hZ.1; have z2 := hZ.2.1; have z3 := hZ.2.2; go_simp; exact hR)); go_frame
                    (apply S_val rfl; (first | exact wanted_none rfl | exact wanted_yes rfl rfl (by kernel_rfl)); (intro Z hZ R hR; have z1 := hZ.1; have z2 := hZ.2.1; have z3 := hZ.2.2; go_simp; exact hR)); go_frame
                    (apply S_val rfl; (first | exact wanted_none rfl | exact wanted_yes rfl rfl (by kernel_rfl)); (intro Z hZ R hR; have z1 := hZ.1; have z2 := hZ.2.1; have z3 := hZ.2.2; go_simp; exact hR)); go_frame
                    (apply S_val rfl; (first | exact wanted_none rfl | exact wanted_yes rfl rfl (by kernel_rfl)); (intro Z hZ R hR; have z1 := hZ.1; have z2 := hZ.2.1; have z3 := hZ.2.2; go_simp; exact hR)); go_frame
                    (apply S_val rfl; (first | exact wanted_none rfl | exact wanted_yes rfl rfl (by kernel_rfl)); (intro Z hZ R hR; have z1 := hZ.1; have z2 := hZ.2.1; have z3 := hZ.2.2; go_simp; exact hR)); go_frame
                    (apply S_val rfl; (first | exact wanted_none rfl | exact wanted_yes rfl rfl (by kernel_rfl)); (intro Z hZ R hR; have z1 := hZ.1; have z2 := hZ.2.1; have z3 := hZ.2.2; go_simp; exact hR)); go_frame
                    (refine S_call rfl ?_ ?_ (Has_as j (by rw [List.length_take]; have := HJ.out; omega) (C_take (readsI SE.out.ru).1 j (by have := HJ.out; omega)) hjc false (decide_eq_false HN2.out)) ?_; (first | exact wanted_none rfl | exact wanted_yes rfl rfl (by kernel_rfl)); (focus (first | (go_simp; done) | (go_simp; rfl)))); rintro e wf ⟨rfl, hb⟩; have SF := Aside0.mk (SE.out.below hb); refine ⟨_, rfl, ⟨cell_of SF.out.an rfl, cell_of SF.out.an rfl, elem_at (readsI SF.out.ru).1 j HX.out⟩, ?_⟩; clear hb; go_frame
                    (apply S_val rfl; (first | exact wanted_none rfl | exact wanted_yes rfl rfl (by kernel_rfl)); (intro Z hZ R hR; have z1 := hZ.1; have z2 := hZ.2.1; have z3 := hZ.2.2; go_simp; exact hR)); go_frame
                    apply S_nil
                    go_wp2
                    go_roundw
                    case rel => exact ⟨j + 1, by omega, by go_num, SF.out⟩
                    case measure => simp [intOf, hwk, hwj]; omega
                  · have gj : decide ((j : Int) < (N.length : Int)) = false := decide_eq_false (by omega)
                    have gjn : (j < N.length) = False := eq_false hj
                    go_wp2
                    go_roundw
                    case rel => exact ⟨1, by omega, by go_num, SY.out⟩
                    case measure => simp [intOf]
          · skip
            go_wp2
            go_loopw [14] (fun x wy => ∃ j : Nat, j ≤ C.length ∧ x = .int .i64 (j : Int) ∧ St w wy col f gv gb gn p1 q1 V W (.slice As B.length cs) (.slice At C.length ct) (.slice Au N.length cu) (.slice Av M.length cv) B C N M) (fun x _ => C.length - (intOf x).toNat)
            case atStart => exact ⟨0, by omega, rfl, SZ.out⟩
            case round =>
              obtain ⟨j, hj', rfl, hsy⟩ := hrel
              clear SZ
              have SY := Aside0.mk hsy
              clear hsy
              have a1_ := cell_of SY.out.ab (o := 1) rfl
              have hbl : C.length ≤ 96 := by have h_ := TB.out.swap.len; omega
              have hwk : wrap64 ((j : Int) + 1) = ((j + 1 : Nat) : Int) := by unfold wrap64; omega
              have hwj : IntKind.i64.wrap ((j : Int) + 1) = ((j + 1 : Nat) : Int) := by simp [IntKind.wrap, IntKind.signed, IntKind.bits]; omega
              by_cases hj : j < C.length
              · have gj : decide ((j : Int) < (C.length : Int)) = true := decide_eq_true (by omega)
                obtain ⟨x, hx⟩ : ∃ x, C[j]? = some x := ⟨_, List.getElem?_eq_getElem hj⟩
                obtain ⟨ade, hA, hc0⟩ := Kd.at_int (readsI SY.out.rt).1 (j : Int) (by omega) (by omega)
                subst hA
                clear hc0
                have HX := Aside0.mk hx
                have hcap := (readsI SY.out.rt).2
                have hjc : j ≤ ct := by omega
                have HN1 := Aside0.mk (TB.out.swap.ap x (List.mem_of_getElem? hx))
                have HN2 := Aside0.mk (not_before TB.out.swap.nl hx)
                have HJ := Aside0.mk hj
                have hjl : (j : Int) < (C.length : Int) := by omega
                have hj0 : 0 ≤ (j : Int) := by omega
                have hjc2 : (j : Int) ≤ (ct : Int) := by omega
                clear hx
                go_wp2
                refine wp_region_text (fun Z => Z.cell? ⟨gb, 0, none⟩ = some (.slice As B.length cs) ∧ Z.cell? ⟨gb, 1, none⟩ = some (.slice (some ade) C.length ct) ∧ Z.cell? (ade.add j) = some (.int .i64 x)) (fun i => [10, 23].contains i) (by kernel_rfl) (by kernel_rfl) ⟨cell_of SY.out.ab rfl, cell_of SY.out.ab rfl, elem_at (readsI SY.out.rt).1 j HX.out⟩ ?_
                have SD := Aside0.mk SY.out.drew
                clear SY
                generalize wr.drew = wd at SD ⊢
                (apply S_val rfl; (first | exact wanted_none rfl | exact wanted_yes rfl rfl (by kernel_rfl)); (intro Z hZ R hR; have z1 := hZ.1; have z2 := hZ.2.1; have z3 := hZ.2.2; go_simp; exact hR)); go_frame
                (apply S_val rfl; (first | exact wanted_none rfl | exact wanted_yes rfl rfl (by kernel_rfl)); (intro Z hZ R hR; have z1 := hZ.1; have z2 := hZ.2.1; have z3 := hZ.2.2; go_simp; exact hR)); go_frame
                (apply S_val rfl; (first | exact wanted_none rfl | exact wanted_yes rfl rfl (by kernel_rfl)); (intro Z hZ R hR; have z1 := hZ.1; have z2 := hZ.2.1; have z3 := hZ.2.2; go_simp; exact hR)); go_frame
                (apply S_val rfl; (first | exact wanted_none rfl | exact wanted_yes rfl rfl (by kernel_rfl)); (intro Z hZ R hR; have z1 := hZ.1; have z2 := hZ.2.1; have z3 := hZ.2.2; go_simp; exact hR)); go_frame
                (apply S_val rfl; (first | exact wanted_none rfl | exact wanted_yes rfl rfl (by kernel_rfl)); (intro Z hZ R hR; have z1 := hZ.1; have z2 := hZ.2.1; have z3 := hZ.2.2; go_simp; exact hR)); go_frame
                (apply S_val rfl; (first | exact wanted_none rfl | exact wanted_yes rfl rfl (by kernel_rfl)); (intro Z hZ R hR; have z1 := hZ.1; have z2 := hZ.2.1; have z3 := hZ.2.2; go_simp; exact hR)); go_frame
                (apply S_val rfl; (first | exact wanted_none rfl | exact wanted_yes rfl rfl (by kernel_rfl)); (intro Z hZ R hR; have z1 := hZ.1; have z2 := hZ.2.1; have z3 := hZ.2.2; go_simp; exact hR)); go_frame
                (apply S_val rfl; (first | exact wanted_none rfl | exact wanted_yes rfl rfl (by kernel_rfl)); (intro Z hZ R hR; have z1 := hZ.1; have z2 := hZ.2.1; have z3 := hZ.2.2; go_simp; exact hR)); go_frame
                (apply S_val rfl; (first | exact wanted_none rfl | exact wanted_yes rfl rfl (by kernel_rfl)); (intro Z hZ R hR; have z1 := hZ.1; have z2 := hZ.2.1; have z3 := hZ.2.2; go_simp; exact hR)); go_frame
                (apply S_val rfl; (first | exact wanted_none rfl | exact wanted_yes rfl rfl (by kernel_rfl)); (intro Z hZ R hR; have z1 := hZ.1; have z2 := hZ.2.1; have z3 := hZ.2.2; go_simp; exact hR)); go_frame
                (refine S_call rfl ?_ ?_ (Has_as B.length rfl (readsI SD.out.rs).1 (readsI SD.out.rs).2 false (decide_eq_false HN1.out)) ?_; (first | exact wanted_none rfl | exact wanted_yes rfl rfl (by kernel_rfl)); (focus (first | (go_simp; done) | (go_simp; rfl)))); rintro e we ⟨rfl, hb⟩; have SE := Aside0.mk (SD.out.below hb); refine ⟨_, rfl, ⟨cell_of SE.out.ab rfl, cell_of SE.out.ab rfl, elem_at (readsI SE.out.rt).1 j HX.out⟩, ?_⟩; clear hb; go_frame
                (apply S_val rfl; (first | exact wanted_none rfl | exact wanted_yes rfl rfl (by kernel_rfl)); (intro Z hZ R hR; have z1 := hZ.1; have z2 := hZ.2.1; have z3 := hZ.2.2; go_simp; exact hR)); go_frame
                (apply S_val rfl; (first | exact wanted_none rfl | exact wanted_yes rfl rfl (by kernel_rfl)); (intro Z hZ R hR; have z1 := hZ.1; have z2 := hZ.2.1; have z3 := hZ.2.2; go_simp; exact hR)); go_frame
                (apply S_val rfl; (first | exact wanted_none rfl | exact wanted_yes rfl rfl (by kernel_rfl)); (intro Z hZ R hR; have z1 := hZ.1; have z2 := hZ.2.1; have z3 := hZ.2.2; go_simp; exact hR)); go_frame
                (apply S_val rfl; (first | exact wanted_none rfl | exact wanted_yes rfl rfl (by kernel_rfl)); (intro Z hZ R hR; have z1 := hZ.1; have z2 := hZ.2.1; have z3 := hZ.2.2; go_simp; exact hR)); go_frame
                (apply S_val rfl; (first | exact wanted_none rfl | exact wanted_yes rfl rfl (by kernel_rfl)); (intro Z hZ R hR; have z1 := hZ.1; have z2 := hZ.2.1; have z3 := hZ.2.2; go_simp; exact hR)); go_frame
                (apply S_val rfl; (first | exact wanted_none rfl | exact wanted_yes rfl rfl (by kernel_rfl)); (intro Z hZ R hR; have z1 := hZ.1; have z2 := hZ.2.1; have z3 := hZ.2.2; go_simp; exact hR)); go_frame
                (apply S_val rfl; (first | exact wanted_none rfl | exact wanted_yes rfl rfl (by kernel_rfl)); (intro Z hZ R hR; have z1 := hZ.1; have z2 := hZ.2.1; have z3 := hZ.2.2; go_simp; exact hR)); go_frame
                (apply S_val rfl; (first | exact wanted_none rfl | exact wanted_yes rfl rfl (by kernel_rfl)); (intro Z hZ R hR; have z1 := hZ.1; have z2 := hZ.2.1; have z3 := hZ.2.2; go_simp; exact hR)); go_frame
                (apply S_val rfl; (first | exact wanted_none rfl | exact wanted_yes rfl rfl (by kernel_rfl)); (intro Z hZ R hR; have z1 := hZ.1; have z2 := hZ.2.1; have z3 := hZ.2.2; go_simp; exact hR)); go_frame
                (apply S_val rfl; (first | exact wanted_none rfl | exact wanted_yes rfl rfl (by kernel_rfl)); (intro Z hZ R hR; have z1 := hZ.1; have z2 := hZ.2.1; have z3 := hZ.2.2; go_simp; exact hR)); go_frame
                (apply S_val rfl; (first | exact wanted_none rfl | exact wanted_yes rfl rfl (by kernel_rfl)); (intro Z hZ R hR; have z1 := hZ.1; have z2 := hZ.2.1; have z3 := hZ.2.2; go_simp; exact hR)); go_frame
                (apply S_val rfl; (first | exact wanted_none rfl | exact wanted_yes rfl rfl (by kernel_rfl)); (intro Z hZ R hR; have z1 := hZ.1; have z2 := hZ.2.1; have z3 := hZ.2.2; go_simp; exact hR)); go_frame
                (refine S_call rfl ?_ ?_ (Has_as j (by rw [List.length_take]; have := HJ.out; omega) (C_take (readsI SE.out.rt).1 j (by have := HJ.out; omega)) hjc false (decide_eq_false HN2.out)) ?_; (first | exact wanted_none rfl | exact wanted_yes rfl rfl (by kernel_rfl)); (focus (first | (go_simp; done) | (go_simp; rfl)))); rintro e wf ⟨rfl, hb⟩; have SF := Aside0.mk (SE.out.below hb); refine ⟨_, rfl, ⟨cell_of SF.out.ab rfl, cell_of SF.out.ab rfl, elem_at (readsI SF.out.rt).1 j HX.out⟩, ?_⟩; clear hb; go_frame
                (apply S_val rfl; (first | exact wanted_none rfl | exact wanted_yes rfl rfl (by kernel_rfl)); (intro Z hZ R hR; have z1 := hZ.1; have z2 := hZ.2.1; have z3 := hZ.2.2; go_simp; exact hR)); go_frame
                apply S_nil
                go_wp2
                go_roundw
                case rel => exact ⟨j + 1, by omega, by go_num, SF.out⟩
                case measure => simp [intOf, hwk, hwj]; omega
              · have gj : decide ((j : Int) < (C.length : Int)) = false := decide_eq_false (by omega)
                have gjn : (j < C.length) = False := eq_false hj
                go_wp2
                go_loopw [15] (fun x wy => ∃ j : Nat, j ≤ M.length ∧ x = .int .i64 (j : Int) ∧ St w wy col f gv gb gn p1 q1 V W (.slice As B.length cs) (.slice At C.length ct) (.slice Au N.length cu) (.slice Av M.length cv) B C N M) (fun x _ => M.length - (intOf x).toNat)
                case atStart => exact ⟨0, by omega, rfl, SY.out⟩
                case round =>
                  obtain ⟨j, hj', rfl, hsy⟩ := hrel
                  clear SY
                  have SY := Aside0.mk hsy
                  clear hsy
                  have a1_ := cell_of SY.out.an (o := 1) rfl
                  have hbl : M.length ≤ 96 := by have h_ := TN.out.swap.len; omega
                  have hwk : wrap64 ((j : Int) + 1) = ((j + 1 : Nat) : Int) := by unfold wrap64; omega
                  have hwj : IntKind.i64.wrap ((j : Int) + 1) = ((j + 1 : Nat) : Int) := by simp [IntKind.wrap, IntKind.signed, IntKind.bits]; omega
                  by_cases hj : j < M.length
                  · have gj : decide ((j : Int) < (M.length : Int)) = true := decide_eq_true (by omega)
                    obtain ⟨x, hx⟩ : ∃ x, M[j]? = some x := ⟨_, List.getElem?_eq_getElem hj⟩
                    obtain ⟨ade, hA, hc0⟩ := Kd.at_int (readsI SY.out.rv).1 (j : Int) (by omega) (by omega)
                    subst hA
                    clear hc0
                    have HX := Aside0.mk hx
                    have hcap := (readsI SY.out.rv).2
                    have hjc : j ≤ cv := by omega
                    have HN1 := Aside0.mk (TN.out.swap.ap x (List.mem_of_getElem? hx))
                    have HN2 := Aside0.mk (not_before TN.out.swap.nl hx)
                    have HJ := Aside0.mk hj
                    have hjl : (j : Int) < (M.length : Int) := by omega
                    have hj0 : 0 ≤ (j : Int) := by omega
                    have hjc2 : (j : Int) ≤ (cv : Int) := by omega
                    clear hx
                    go_wp2
                    refine wp_region_text (fun Z => Z.cell? ⟨gn, 0, none⟩ = some (.slice Au N.length cu) ∧ Z.cell? ⟨gn, 1, none⟩ = some (.slice (some ade) M.length cv) ∧ Z.cell? (ade.add j) = some (.int .i64 x)) (fun i => [10, 23].contains i) (by kernel_rfl) (by kernel_rfl) ⟨cell_of SY.out.an rfl, cell_of SY.out.an rfl, elem_at (readsI SY.out.rv).1 j HX.out⟩ ?_
                    have SD := Aside0.mk SY.out.drew
                    clear SY
                    generalize wr.drew = wd at SD ⊢
                    (apply S_val rfl; (first | exact wanted_none rfl | exact wanted_yes rfl rfl (by kernel_rfl)); (intro Z hZ R hR; have z1 := hZ.1; have z2 := hZ.2.1; have z3 := hZ.2.2; go_simp; exact hR)); go_frame
                    (apply S_val rfl; (first | exact wanted_none rfl | exact wanted_yes rfl rfl (by kernel_rfl)); (intro Z hZ R hR; have z1 := hZ.1; have z2 := hZ.2.1; have z3 := hZ.2.2; go_simp; exact hR)); go_frame
                    (apply S_val rfl; (first | exact wanted_none rfl | exact wanted_yes rfl rfl (by kernel_rfl)); (intro Z hZ R hR; have z1 := hZ.1; have z2 := hZ.2.1; have z3 := hZ.2.2; go_simp; exact hR)); go_frame
                    (apply S_val rfl; (first | exact wanted_none rfl | exact wanted_yes rfl rfl (by kernel_rfl)); (intro Z hZ R hR; have z1 := hZ.1; have z2 := hZ.2.1; have z3 := hZ.2.2; go_simp; exact hR)); go_frame
                    (apply S_val rfl; (first | exact wanted_none rfl | exact wanted_yes rfl rfl (by kernel_rfl)); (intro Z hZ R hR; have z1 := hZ.1; have z2 := hZ.2.1; have z3 := hZ.2.2; go_simp; exact hR)); go_frame
                    (apply S_val rfl; (first | exact wanted_none rfl | exact wanted_yes rfl rfl (by kernel_rfl)); (intro Z hZ R hR; have z1 := hZ.1; have z2 := hZ.2.1; have z3 := hZ.2.2; go_simp; exact hR)); go_frame
                    (apply S_val rfl; (first | exact wanted_none rfl | exact wanted_yes rfl rfl (by kernel_rfl)); (intro Z hZ R hR; have z1 := hZ.1; have z2 := hZ.2.1; have z3 := hZ.2.2; go_simp; exact hR)); go_frame
                    (apply S_val rfl; (first | exact wanted_none rfl | exact wanted_yes rfl rfl (by kernel_rfl)); (intro Z hZ R hR; have z1 := hZ.1; have z2 := hZ.2.1; have z3 := hZ.2.2; go_simp; exact hR)); go_frame
                    (apply S_val rfl; (first | exact wanted_none rfl | exact wanted_yes rfl rfl (by kernel_rfl)); (intro Z hZ R hR; have z1 := hZ.1; have z2 := hZ.2.1; have z3 := hZ.2.2; go_simp; exact hR)); go_frame
                    (apply S_val rfl; (first | exact wanted_none rfl | exact wanted_yes rfl rfl (by kernel_rfl)); (intro Z hZ R hR; have z1 := hZ.1; have z2 := hZ.2.1; have z3 := hZ.2.2; go_simp; exact hR)); go_frame
                    (refine S_call rfl ?_ ?_ (Has_as N.length rfl (readsI SD.out.ru).1 (readsI SD.out.ru).2 false (decide_eq_false HN1.out)) ?_; (first | exact wanted_none rfl | exact wanted_yes rfl rfl (by kernel_rfl)); (focus (first | (go_simp; done) | (go_simp; rfl)))); rintro e we ⟨rfl, hb⟩; have SE := Aside0.mk (SD.out.below hb); refine ⟨_, rfl, ⟨cell_of SE.out.an rfl, cell_of SE.out.an rfl, elem_at (readsI SE.out.rv).1 j HX.out⟩, ?_⟩; clear hb; go_frame
                    (apply S_val rfl; (first | exact wanted_none rfl | exact wanted_yes rfl rfl (by kernel_rfl)); (intro Z hZ R hR; have z1 := hZ.1; have z2 := hZ.2.1; have z3 := hZ.2.2; go_simp; exact hR)); go_frame
                    (apply S_val rfl; (first | exact wanted_none rfl | exact wanted_yes rfl rfl (by kernel_rfl)); (intro Z hZ R hR; have z1 := hZ.1; have z2 := hZ.2.1; have z3 := hZ.2.2; go_simp; exact hR)); go_frame
                    (apply S_val rfl; (first | exact wanted_none rfl | exact wanted_yes rfl rfl (by kernel_rfl)); (intro Z hZ R hR; have z1 := hZ.1; have z2 := hZ.2.1; have z3 := hZ.2.2; go_simp; exact hR)); go_frame
                    (apply S_val rfl; (first | exact wanted_none rfl | exact wanted_yes rfl rfl (by kernel_rfl)); (intro Z hZ R hR; have z1 := hZ.1; have z2 := hZ.2.1; have z3 := hZ.2.2; go_simp; exact hR)); go_frame
                    (apply S_val rfl; (first | exact wanted_none rfl | exact wanted_yes rfl rfl (by kernel_rfl)); (intro Z hZ R hR; have z1 := hZ.1; have z2 := hZ.2.1; have z3 := hZ.2.2; go_simp; exact hR)); go_frame
                    (apply S_val rfl; (first | exact wanted_none rfl | exact wanted_yes rfl rfl (by kernel_rfl)); (intro Z hZ R hR; have z1 := hZ.1; have z2 := hZ.2.1; have z3 := hZ.2.2; go_simp; exact hR)); go_frame
                    (apply S_val rfl; (first | exact wanted_none rfl | exact wanted_yes rfl rfl (by kernel_rfl)); (intro Z hZ R hR; have z1 := hZ.1; have z2 := hZ.2.1; have z3 := hZ.2.2; go_simp; exact hR)); go_frame
                    (apply S_val rfl; (first | exact wanted_none rfl | exact wanted_yes rfl rfl (by kernel_rfl)); (intro Z hZ R hR; have z1 := hZ.1; have z2 := hZ.2.1; have z3 := hZ.2.2; go_simp; exact hR)); go_frame
                    (apply S_val rfl; (first | exact wanted_none rfl | exact wanted_yes rfl rfl (by kernel_rfl)); (intro Z hZ R hR; have z1 := hZ.1; have z2 := hZ.2.1; have z3 := hZ.2.2; go_simp; exact hR)); go_frame
                    (apply S_val rfl; (first | exact wanted_none rfl | exact wanted_yes rfl rfl (by kernel_rfl)); (intro Z hZ R hR; have z1 := hZ.1; have z2 := hZ.2.1; have z3 := hZ.2.2; go_simp; exact hR)); go_frame
                    (apply S_val rfl; (first | exact wanted_none rfl | exact wanted_yes rfl rfl (by kernel_rfl)); (intro Z hZ R hR; have z1 := hZ.1; have z2 := hZ.2.1; have z3 := hZ.2.2; go_simp; exact hR)); go_frame
                    (apply S_val rfl; (first | exact wanted_none rfl | exact wanted_yes rfl rfl (by kernel_rfl)); (intro Z hZ R hR; have z1 := hZ.1; have z2 := hZ.2.1; have z3 := hZ.2.2; go_simp; exact hR)); go_frame
                    (refine S_call rfl ?_ ?_ (Has_as j (by rw [List.length_take]; have := HJ.out; omega) (C_take (readsI SE.out.rv).1 j (by have := HJ.out; omega)) hjc false (decide_eq_false HN2.out)) ?_; (first | exact wanted_none rfl | exact wanted_yes rfl rfl (by kernel_rfl)); (focus (first | (go_simp; done) | (go_simp; rfl)))); rintro e wf ⟨rfl, hb⟩; have SF := Aside0.mk (SE.out.below hb); refine ⟨_, rfl, ⟨cell_of SF.out.an rfl, cell_of SF.out.an rfl, elem_at (readsI SF.out.rv).1 j HX.out⟩, ?_⟩; clear hb; go_frame
                    (apply S_val rfl; (first | exact wanted_none rfl | exact wanted_yes rfl rfl (by kernel_rfl)); (intro Z hZ R hR; have z1 := hZ.1; have z2 := hZ.2.1; have z3 := hZ.2.2; go_simp; exact hR)); go_frame
                    apply S_nil
                    go_wp2
                    go_roundw
                    case rel => exact ⟨j + 1, by omega, by go_num, SF.out⟩
                    case measure => simp [intOf, hwk, hwj]; omega
                  · have gj : decide ((j : Int) < (M.length : Int)) = false := decide_eq_false (by omega)
                    have gjn : (j < M.length) = False := eq_false hj
                    go_wp2
                    go_roundw
                    case rel => exact ⟨2, by omega, by go_num, SY.out⟩
                    case measure => simp [intOf]
          · go_wp2
            go_ret
            exact ⟨rfl, SZ.out.be⟩
      · skip
        go_wp2
        go_loopw [13] (fun x wz => ∃ k : Int, (k = 0 ∨ k = 1 ∨ k = 2) ∧ x = .int .i64 k ∧ St w wz col f gv gb gn p1 q1 V W (.slice As B.length cs) (.slice At C.length ct) (.slice Au N.length cu) (.slice Av M.length cv) B C N M) (fun x _ => 10 - (intOf x).toNat)
        case atStart => exact ⟨0, by omega, rfl, SS.out⟩
        case round =>
          obtain ⟨k, hk, rfl, hsz⟩ := hrel
          have SZ := Aside0.mk hsz
          clear hsz SS
          rcases hk with rfl | rfl | rfl
          · skip
            go_wp2
            go_loopw [14] (fun x wy => ∃ j : Nat, j ≤ B.length ∧ x = .int .i64 (j : Int) ∧ St w wy col f gv gb gn p1 q1 V W (.slice As B.length cs) (.slice At C.length ct) (.slice Au N.length cu) (.slice Av M.length cv) B C N M) (fun x _ => B.length - (intOf x).toNat)
            case atStart => exact ⟨0, by omega, rfl, SZ.out⟩
            case round =>
              obtain ⟨j, hj', rfl, hsy⟩ := hrel
              clear SZ
              have SY := Aside0.mk hsy
              clear hsy
              have a0_ := cell_of SY.out.ab (o := 0) rfl
              have hbl : B.length ≤ 96 := by have h_ := TB.out.len; omega
              have hwk : wrap64 ((j : Int) + 1) = ((j + 1 : Nat) : Int) := by unfold wrap64; omega
              have hwj : IntKind.i64.wrap ((j : Int) + 1) = ((j + 1 : Nat) : Int) := by simp [IntKind.wrap, IntKind.signed, IntKind.bits]; omega
              by_cases hj : j < B.length
              · have gj : decide ((j : Int) < (B.length : Int)) = true := decide_eq_true (by omega)
                obtain ⟨x, hx⟩ : ∃ x, B[j]? = some x := ⟨_, List.getElem?_eq_getElem hj⟩
                obtain ⟨ade, hA, hc0⟩ := Kd.at_int (readsI SY.out.rs).1 (j : Int) (by omega) (by omega)
                subst hA
                clear hc0
                have HX := Aside0.mk hx
                have hcap := (readsI SY.out.rs).2
                have hjc : j ≤ cs := by omega
                have HN1 := Aside0.mk (TB.out.ap x (List.mem_of_getElem? hx))
                have HN2 := Aside0.mk (not_before TB.out.nl hx)
                have HJ := Aside0.mk hj
                have hjl : (j : Int) < (B.length : Int) := by omega
                have hj0 : 0 ≤ (j : Int) := by omega
                have hjc2 : (j : Int) ≤ (cs : Int) := by omega
                clear hx
                go_wp2
                refine wp_region_text (fun Z => Z.cell? ⟨gb, 0, none⟩ = some (.slice (some ade) B.length cs) ∧ Z.cell? ⟨gb, 1, none⟩ = some (.slice At C.length ct) ∧ Z.cell? (ade.add j) = some (.int .i64 x)) (fun i => [10, 23].contains i) (by kernel_rfl) (by kernel_rfl) ⟨cell_of SY.out.ab rfl, cell_of SY.out.ab rfl, elem_at (readsI SY.out.rs).1 j HX.out⟩ ?_
                have SD := Aside0.mk SY.out.drew
                clear SY
                generalize wr.drew = wd at SD ⊢
                (apply S_val rfl; (first | exact wanted_none rfl | exact wanted_yes rfl rfl (by kernel_rfl)); (intro Z hZ R hR; have z1 := hZ.1; have z2 := hZ.2.1; have z3 := hZ.2.2; go_simp; exact hR)); go_frame
                (apply S_val rfl; (first | exact wanted_none rfl | exact wanted_yes rfl rfl (by kernel_rfl)); (intro Z hZ R hR; have z1 := hZ.1; have z2 := hZ.2.1; have z3 := hZ.2.2; go_simp; exact hR)); go_frame
                (apply S_val rfl; (first | exact wanted_none rfl | exact wanted_yes rfl rfl (by kernel_rfl)); (intro Z hZ R hR; have z1 := hZ.1; have z2 := hZ.2.1; have z3 := hZ.2.2; go_simp; exact hR)); go_frame
                (apply S_val rfl; (first | exact wanted_none rfl | exact wanted_yes rfl rfl (by kernel_rfl)); (intro Z hZ R hR; have z1 := hZ.1; have z2 := hZ.2.1; have z3 := hZ.2.2; go_simp; exact hR)); go_frame
                (apply S_val rfl; (first | exact wanted_none rfl | exact wanted_yes rfl rfl (by kernel_rfl)); (intro Z hZ R hR; have z1 := hZ.1; have z2 := hZ.2.1; have z3 := hZ.2.2; go_simp; exact hR)); go_frame
                (apply S_val rfl; (first | exact wanted_none rfl | exact wanted_yes rfl rfl (by kernel_rfl)); (intro Z hZ R hR; have z1 := hZ.1; have z2 := hZ.2.1; have z3 := hZ.2.2; go_simp; exact hR)); go_frame
                (apply S_val rfl; (first | exact wanted_none rfl | exact wanted_yes rfl rfl (by kernel_rfl)); (intro Z hZ R hR; have z1 := hZ.1; have z2 := hZ.2.1; have z3 := hZ.2.2; go_simp; exact hR)); go_frame
                (apply S_val rfl; (first | exact wanted_none rfl | exact wanted_yes rfl rfl (by kernel_rfl)); (intro Z hZ R hR; have z1 := hZ.1; have z2 := hZ.2.1; have z3 := hZ.2.2; go_simp; exact hR)); go_frame
                (apply S_val rfl; (first | exact wanted_none rfl | exact wanted_yes rfl rfl (by kernel_rfl)); (intro Z hZ R hR; have z1 := hZ.1; have z2 := hZ.2.1; have z3 := hZ.2.2; go_simp; exact hR)); go_frame
                (apply S_val rfl; (first | exact wanted_none rfl | exact wanted_yes rfl rfl (by kernel_rfl)); (intro Z hZ R hR; have z1 := hZ.1; have z2 := hZ.2.1; have z3 := hZ.2.2; go_simp; exact hR)); go_frame
                (refine S_call rfl ?_ ?_ (Has_as C.length rfl (readsI SD.out.rt).1 (readsI SD.out.rt).2 false (decide_eq_false HN1.out)) ?_; (first | exact wanted_none rfl | exact wanted_yes rfl rfl (by kernel_rfl)); (focus (first | (go_simp; done) | (go_simp; rfl)))); rintro e we ⟨rfl, hb⟩; have SE := Aside0.mk (SD.out.below hb); refine ⟨_, rfl, ⟨cell_of SE.out.ab rfl, cell_of SE.out.ab rfl, elem_at (readsI SE.out.rs).1 j HX.out⟩, ?_⟩; clear hb; go_frame
                (apply S_val rfl; (first | exact wanted_none rfl | exact wanted_yes rfl rfl (by kernel_rfl)); (intro Z hZ R hR; have z1 := hZ.1; have z2 := hZ.2.1; have z3 := hZ.2.2; go_simp; exact hR)); go_frame
                (apply S_val rfl; (first | exact wanted_none rfl | exact wanted_yes rfl rfl (by kernel_rfl)); (intro Z hZ R hR; have z1 := hZ.1; have z2 := hZ.2.1; have z3 := hZ.2.2; go_simp; exact hR)); go_frame
                (apply S_val rfl; (first | exact wanted_none rfl | exact wanted_yes rfl rfl (by kernel_rfl)); (intro Z hZ R hR; have z1 := hZ.1; have z2 := hZ.2.1; have z3 := hZ.2.2; go_simp; exact hR)); go_frame
                (apply S_val rfl; (first | exact wanted_none rfl | exact wanted_yes rfl rfl (by kernel_rfl)); (intro Z hZ R hR; have z1 := hZ.1; have z2 := hZ.2.1; have z3 := hZ.2.2; go_simp; exact hR)); go_frame
                (apply S_val rfl; (first | exact wanted_none rfl | exact wanted_yes rfl rfl (by kernel_rfl)); (intro Z hZ R hR; have z1 := hZ.1; have z2 := hZ.2.1; have z3 := hZ.2.2; go_simp; exact hR)); go_frame
                (apply S_val rfl; (first | exact wanted_none rfl | exact wanted_yes rfl rfl (by kernel_rfl)); (intro Z hZ R hR; have z1 := hZ.1; have z2 := hZ.2.1; have z3 := hZ.2.2; go_simp; exact hR)); go_frame
                (apply S_val rfl; (first | exact wanted_none rfl | exact wanted_yes rfl rfl (by kernel_rfl)); (intro Z hZ R hR; have z1 := hZ.1; have z2 := hZ.2.1; have z3 := hZ.2.2; go_simp; exact hR)); go_frame
                (apply S_val rfl; (first | exact wanted_none rfl | exact wanted_yes rfl rfl (by kernel_rfl)); (intro Z hZ R hR; have z1 := hZ.1; have z2 := hZ.2.1; have z3 := hZ.2.2; go_simp; exact hR)); go_frame
                (apply S_val rfl; (first | exact wanted_none rfl | exact wanted_yes rfl rfl (by kernel_rfl)); (intro Z hZ R hR; have z1 := hZ.1; have z2 := hZ.2.1; have z3 := hZ.2.2; go_simp; exact hR)); go_frame
                (apply S_val rfl; (first | exact wanted_none rfl | exact wanted_yes rfl rfl (by kernel_rfl)); (intro Z hZ R hR; have z1 := hZ.1; have z2 := hZ.2.1; have z3 := hZ.2.2; go_simp; exact hR)); go_frame
                (apply S_val rfl; (first | exact wanted_none rfl | exact wanted_yes rfl rfl (by kernel_rfl)); (intro Z hZ R hR; have z1 := hZ.1; have z2 := hZ.2.1; have z3 := hZ.2.2; go_simp; exact hR)); go_frame
                (apply S_val rfl; (first | exact wanted_none rfl | exact wanted_yes rfl rfl (by kernel_rfl)); (intro Z hZ R hR; have z1 := hZ.1; have z2 := hZ.2.1; have z3 := hZ.2.2; go_simp; exact hR)); go_frame
                (refine S_call rfl ?_ ?_ (Has_as j (by rw [List.length_take]; have := HJ.out; omega) (C_take (readsI SE.out.rs).1 j (by have := HJ.out; omega)) hjc false (decide_eq_false HN2.out)) ?_; (first | exact wanted_none rfl | exact wanted_yes rfl rfl (by kernel_rfl)); (focus (first | (go_simp; done) | (go_simp; rfl)))); rintro e wf ⟨rfl, hb⟩; have SF := Aside0.mk (SE.out.below hb); refine ⟨_, rfl, ⟨cell_of SF.out.ab rfl, cell_of SF.out.ab rfl, elem_at (readsI SF.out.rs).1 j HX.out⟩, ?_⟩; clear hb; go_frame
                (apply S_val rfl; (first | exact wanted_none rfl | exact wanted_yes rfl rfl (by kernel_rfl)); (intro Z hZ R hR; have z1 := hZ.1; have z2 := hZ.2.1; have z3 := hZ.2.2; go_simp; exact hR)); go_frame
                apply S_nil
                go_wp2
                go_roundw
                case rel => exact ⟨j + 1, by omega, by go_num, SF.out⟩
                case measure => simp [intOf, hwk, hwj]; omega
              · have gj : decide ((j : Int) < (B.length : Int)) = false := decide_eq_false (by omega)
                have gjn : (j < B.length) = False := eq_false hj
                go_wp2
                go_loopw [15] (fun x wy => ∃ j : Nat, j ≤ N.length ∧ x = .int .i64 (j : Int) ∧ St w wy col f gv gb gn p1 q1 V W (.slice As B.length cs) (.slice At C.length ct) (.slice Au N.length cu) (.slice Av M.length cv) B C N M) (fun x _ => N.length - (intOf x).toNat)
                case atStart => exact ⟨0, by omega, rfl, SY.out⟩
                case round =>
                  obtain ⟨j, hj', rfl, hsy⟩ := hrel
                  clear SY
                  have SY := Aside0.mk hsy
                  clear hsy
                  have a0_ := cell_of SY.out.an (o := 0) rfl
                  have hbl : N.length ≤ 96 := by have h_ := TN.out.len; omega
                  have hwk : wrap64 ((j : Int) + 1) = ((j + 1 : Nat) : Int) := by unfold wrap64; omega
                  have hwj : IntKind.i64.wrap ((j : Int) + 1) = ((j + 1 : Nat) : Int) := by simp [IntKind.wrap, IntKind.signed, IntKind.bits]; omega
                  by_cases hj : j < N.length
                  · have gj : decide ((j : Int) < (N.length : Int)) = true := decide_eq_true (by omega)
                    obtain ⟨x, hx⟩ : ∃ x, N[j]? = some x := ⟨_, List.getElem?_eq_getElem hj⟩
                    obtain ⟨ade, hA, hc0⟩ := Kd.at_int (readsI SY.out.ru).1 (j : Int) (by omega) (by omega)
                    subst hA
                    clear hc0
                    have HX := Aside0.mk hx
                    have hcap := (readsI SY.out.ru).2
                    have hjc : j ≤ cu := by omega
                    have HN1 := Aside0.mk (TN.out.ap x (List.mem_of_getElem? hx))
                    have HN2 := Aside0.mk (not_before TN.out.nl hx)
                    have HJ := Aside0.mk hj
                    have hjl : (j : Int) < (N.length : Int) := by omega
                    have hj0 : 0 ≤ (j : Int) := by omega
                    have hjc2 : (j : Int) ≤ (cu : Int) := by omega
                    clear hx
                    go_wp2
                    refine wp_region_text (fun Z => Z.cell? ⟨gn, 0, none⟩ = some (.slice (some ade) N.length cu) ∧ Z.cell? ⟨gn, 1, none⟩ = some (.slice Av M.length cv) ∧ Z.cell? (ade.add j) = some (.int .i64 x)) (fun i => [10, 23].contains i) (by kernel_rfl) (by kernel_rfl) ⟨cell_of SY.out.an rfl, cell_of SY.out.an rfl, elem_at (readsI SY.out.ru).1 j HX.out⟩ ?_
                    have SD := Aside0.mk SY.out.drew
                    clear SY
                    generalize wr.drew = wd at SD ⊢
                    (apply S_val rfl; (first | exact wanted_none rfl | exact wanted_yes rfl rfl (by kernel_rfl)); (intro Z hZ R hR; have z1 := hZ.1; have z2 := hZ.2.1; have z3 := hZ.2.2; go_simp; exact hR)); go_frame
                    (apply S_val rfl; (first | exact wanted_none rfl | exact wanted_yes rfl rfl (by kernel_rfl)); (intro Z hZ R hR; have z1 := hZ.1; have z2 := hZ.2.1; have z3 := hZ.2.2; go_simp; exact hR)); go_frame
                    (apply S_val rfl; (first | exact wanted_none rfl | exact wanted_yes rfl rfl (by kernel_rfl)); (intro Z hZ R hR; have z1 := hZ.1; have z2 := hZ.2.1; have z3 := hZ.2.2; go_simp; exact hR)); go_frame
                    (apply S_val rfl; (first | exact wanted_none rfl | exact wanted_yes rfl rfl (by kernel_rfl)); (intro Z hZ R hR; have z1 := hZ.1; have z2 := hZ.2.1; have z3 := hZ.2.2; go_simp; exact hR)); go_frame
                    (apply S_val rfl; (first | exact wanted_none rfl | exact wanted_yes rfl rfl (by kernel_rfl)); (intro Z hZ R hR; have z1 := hZ.1; have z2 := hZ.2.1; have z3 := hZ.2.2; go_simp; exact hR)); go_frame
                    (apply S_val rfl; (first | exact wanted_none rfl | exact wanted_yes rfl rfl (by kernel_rfl)); (intro Z hZ R hR; have z1 := hZ.1; have z2 := hZ.2.1; have z3 := hZ.2.2; go_simp; exact hR)); go_frame
                    (apply S_val rfl; (first | exact wanted_none rfl | exact wanted_yes rfl rfl (by kernel_rfl)); (intro Z hZ R hR; have z1 := hZ.1; have z2 := hZ.2.1; have z3 := hZ.2.2; go_simp; exact hR)); go_frame
                    (apply S_val rfl; (first | exact wanted_none rfl | exact wanted_yes rfl rfl (by kernel_rfl)); (intro Z hZ R hR; have z1 := hZ.1; have z2 := hZ.2.1; have z3 := hZ.2.2; go_simp; exact hR)); go_frame
                    (apply S_val rfl; (first | exact wanted_none rfl | exact wanted_yes rfl rfl (by kernel_rfl)); (intro Z hZ R hR; have z1 := hZ.1; have z2 := hZ.2.1; have z3 := hZ.2.2; go_simp; exact hR)); go_frame
                    (apply S_val rfl; (first | exact wanted_none rfl | exact wanted_yes rfl rfl (by kernel_rfl)); (intro Z hZ R hR; have z1 := hZ.1; have z2 := hZ.2.1; have z3 := hZ.2.2; go_simp; exact hR)); go_frame
                    (refine S_call rfl ?_ ?_ (Has_as M.length rfl (readsI SD.out.rv).1 (readsI SD.out.rv).2 false (decide_eq_false HN1.out)) ?_; (first | exact wanted_none rfl | exact wanted_yes rfl rfl (by kernel_rfl)); (focus (first | (go_simp; done) | (go_simp; rfl)))); rintro e we ⟨rfl, hb⟩; have SE := Aside0.mk (SD.out.below hb); refine ⟨_, rfl, ⟨cell_of SE.out.an rfl, cell_of SE.out.an rfl, elem_at (readsI SE.out.ru).1 j HX.out⟩, ?_⟩; clear hb; go_frame
                    (apply S_val rfl; (first | exact wanted_none rfl | exact wanted_yes rfl rfl (by kernel_rfl)); (intro Z hZ R hR; have z1 := hZ.1; have z2 := hZ.2.1; have z3 := hZ.2.2; go_simp; exact hR)); go_frame
                    (apply S_val rfl; (first | exact wanted_none rfl | exact wanted_yes rfl rfl (by kernel_rfl)); (intro Z hZ R hR; have z1 := hZ.1; have z2 := hZ.2.1; have z3 := hZ.2.2; go_simp; exact hR)); go_frame
                    (apply S_val rfl; (first | exact wanted_none rfl | exact wanted_yes rfl rfl (by kernel_rfl)); (intro Z hZ R hR; have z1 := hZ.1; have z2 := hZ.2.1; have z3 := hZ.2.2; go_simp; exact hR)); go_frame
                    (apply S_val rfl; (first | exact wanted_none rfl | exact wanted_yes rfl rfl (by kernel_rfl)); (intro Z hZ R hR; have z1 := hZ.1; have z2 := hZ.2.1; have z3 := hZ.2.2; go_simp; exact hR)); go_frame
                    (apply S_val rfl; (first | exact wanted_none rfl | exact wanted_yes rfl rfl (by kernel_rfl)); (intro Z hZ R hR; have z1 := hZ.1; have z2 := hZ.2.1; have z3 := hZ.2.2; go_simp; exact hR)); go_frame
                    (apply S_val rfl; (first | exact wanted_none rfl | exact wanted_yes rfl rfl (by kernel_rfl)); (intro Z hZ R hR; have z1 := hZ.1; have z2 := hZ.2.1; have z3 := hZ.2.2; go_simp; exact hR)); go_frame
                    (apply S_val rfl; (first | exact wanted_none rfl | exact wanted_yes rfl rfl (by kernel_rfl)); (intro Z hZ R hR; have z1 := hZ.1; have z2 := hZ.2.1; have z3 := hZ.2.2; go_simp; exact hR)); go_frame
                    (apply S_val rfl; (first | exact wanted_none rfl | exact wanted_yes rfl rfl (by kernel_rfl)); (intro Z hZ R hR; have z1 := hZ.1; have z2 := hZ.2.1; have z3 := hZ.2.2; go_simp; exact hR)); go_frame
                    (apply S_val rfl; (first | exact wanted_none rfl | exact wanted_yes rfl rfl (by kernel_rfl)); (intro Z hZ R hR; have z1 := hZ.1; have z2 := hZ.2.1; have z3 := hZ.2.2; go_simp; exact hR)); go_frame
                    (apply S_val rfl; (first | exact wanted_none rfl | exact wanted_yes rfl rfl (by kernel_rfl)); (intro Z hZ R hR; have z1 := hZ.1; have z2 := hZ.2.1; have z3 := hZ.2.2; go_simp; exact hR)); go_frame
                    (apply S_val rfl; (first | exact wanted_none rfl | exact wanted_yes rfl rfl (by kernel_rfl)); (intro Z hZ R hR; have z1 := hZ.1; have z2 := hZ.2.1; have z3 := hZ.2.2; go_simp; exact hR)); go_frame
                    (apply S_val rfl; (first | exact wanted_none rfl | exact wanted_yes rfl rfl (by kernel_rfl)); (intro Z hZ R hR; have z1 := hZ.1; have z2 := hZ.2.1; have z3 := hZ.2.2; go_simp; exact hR)); go_frame
                    (refine S_call rfl ?_ ?_ (Has_as j (by rw [List.length_take]; have := HJ.out; omega) (C_take (readsI SE.out.ru).1 j (by have := HJ.out; omega)) hjc false (decide_eq_false HN2.out)) ?_; (first | exact wanted_none rfl | exact wanted_yes rfl rfl (by kernel_rfl)); (focus (first | (go_simp; done) | (go_simp; rfl)))); rintro e wf ⟨rfl, hb⟩; have SF := Aside0.mk (SE.out.below hb); refine ⟨_, rfl, ⟨cell_of SF.out.an rfl, cell_of SF.out.an rfl, elem_at (readsI SF.out.ru).1 j HX.out⟩, ?_⟩; clear hb; go_frame
                    (apply S_val rfl; (first | exact wanted_none rfl | exact wanted_yes rfl rfl (by kernel_rfl)); (intro Z hZ R hR; have z1 := hZ.1; have z2 := hZ.2.1; have z3 := hZ.2.2; go_simp; exact hR)); go_frame
                    apply S_nil
                    go_wp2
                    go_roundw
                    case rel => exact ⟨j + 1, by omega, by go_num, SF.out⟩
                    case measure => simp [intOf, hwk, hwj]; omega
                  · have gj : decide ((j : Int) < (N.length : Int)) = false := decide_eq_false (by omega)
                    have gjn : (j < N.length) = False := eq_false hj
                    go_wp2
                    go_roundw
                    case rel => exact ⟨1, by omega, by go_num, SY.out⟩
                    case measure => simp [intOf]
          · skip
            go_wp2
            go_loopw [14] (fun x wy => ∃ j : Nat, j ≤ C.length ∧ x = .int .i64 (j : Int) ∧ St w wy col f gv gb gn p1 q1 V W (.slice As B.length cs) (.slice At C.length ct) (.slice Au N.length cu) (.slice Av M.length cv) B C N M) (fun x _ => C.length - (intOf x).toNat)
            case atStart => exact ⟨0, by omega, rfl, SZ.out⟩
            case round =>
              obtain ⟨j, hj', rfl, hsy⟩ := hrel
              clear SZ
              have SY := Aside0.mk hsy
              clear hsy
              have a1_ := cell_of SY.out.ab (o := 1) rfl
              have hbl : C.length ≤ 96 := by have h_ := TB.out.swap.len; omega
              have hwk : wrap64 ((j : Int) + 1) = ((j + 1 : Nat) : Int) := by unfold wrap64; omega
              have hwj : IntKind.i64.wrap ((j : Int) + 1) = ((j + 1 : Nat) : Int) := by simp [IntKind.wrap, IntKind.signed, IntKind.bits]; omega
              by_cases hj : j < C.length
              · have gj : decide ((j : Int) < (C.length : Int)) = true := decide_eq_true (by omega)
                obtain ⟨x, hx⟩ : ∃ x, C[j]? = some x := ⟨_, List.getElem?_eq_getElem hj⟩
                obtain ⟨ade, hA, hc0⟩ := Kd.at_int (readsI SY.out.rt).1 (j : Int) (by omega) (by omega)
                subst hA
                clear hc0
                have HX := Aside0.mk hx
                have hcap := (readsI SY.out.rt).2
                have hjc : j ≤ ct := by omega
                have HN1 := Aside0.mk (TB.out.swap.ap x (List.mem_of_getElem? hx))
                have HN2 := Aside0.mk (not_before TB.out.swap.nl hx)
                have HJ := Aside0.mk hj
                have hjl : (j : Int) < (C.length : Int) := by omega
                have hj0 : 0 ≤ (j : Int) := by omega
                have hjc2 : (j : Int) ≤ (ct : Int) := by omega
                clear hx
                go_wp2
                refine wp_region_text (fun Z => Z.cell? ⟨gb, 0, none⟩ = some (.slice As B.length cs) ∧ Z.cell? ⟨gb, 1, none⟩ = some (.slice (some ade) C.length ct) ∧ Z.cell? (ade.add j) = some (.int .i64 x)) (fun i => [10, 23].contains i) (by kernel_rfl) (by kernel_rfl) ⟨cell_of SY.out.ab rfl, cell_of SY.out.ab rfl, elem_at (readsI SY.out.rt).1 j HX.out⟩ ?_
                have SD := Aside0.mk SY.out.drew
                clear SY
                generalize wr.drew = wd at SD ⊢
                (apply S_val rfl; (first | exact wanted_none rfl | exact wanted_yes rfl rfl (by kernel_rfl)); (intro Z hZ R hR; have z1 := hZ.1; have z2 := hZ.2.1; have z3 := hZ.2.2; go_simp; exact hR)); go_frame
                (apply S_val rfl; (first | exact wanted_none rfl | exact wanted_yes rfl rfl (by kernel_rfl)); (intro Z hZ R hR; have z1 := hZ.1; have z2 := hZ.2.1; have z3 := hZ.2.2; go_simp; exact hR)); go_frame
                (apply S_val rfl; (first | exact wanted_none rfl | exact wanted_yes rfl rfl (by kernel_rfl)); (intro Z hZ R hR; have z1 := hZ.1; have z2 := hZ.2.1; have z3 := hZ.2.2; go_simp; exact hR)); go_frame
                (apply S_val rfl; (first | exact wanted_none rfl | exact wanted_yes rfl rfl (by kernel_rfl)); (intro Z hZ R hR; have z1 := hZ.1; have z2 := hZ.2.1; have z3 := hZ.2.2; go_simp; exact hR)); go_frame
                (apply S_val rfl; (first | exact wanted_none rfl | exact wanted_yes rfl rfl (by kernel_rfl)); (intro Z hZ R hR; have z1 := hZ.1; have z2 := hZ.2.1; have z3 := hZ.2.2; go_simp; exact hR)); go_frame
                (apply S_val rfl; (first | exact wanted_none rfl | exact wanted_yes rfl rfl (by kernel_rfl)); (intro Z hZ R hR; have z1 := hZ.1; have z2 := hZ.2.1; have z3 := hZ.2.2; go_simp; exact hR)); go_frame
                (apply S_val rfl; (first | exact wanted_none rfl | exact wanted_yes rfl rfl (by kernel_rfl)); (intro Z hZ R hR; have z1 := hZ.1; have z2 := hZ.2.1; have z3 := hZ.2.2; go_simp; exact hR)); go_frame
                (apply S_val rfl; (first | exact wanted_none rfl | exact wanted_yes rfl rfl (by kernel_rfl)); (intro Z hZ R hR; have z1 := hZ.1; have z2 := hZ.2.1; have z3 := hZ.2.2; go_simp; exact hR)); go_frame
                (apply S_val rfl; (first | exact wanted_none rfl | exact wanted_yes rfl rfl (by kernel_rfl)); (intro Z hZ R hR; have z1 := hZ.1; have z2 := hZ.2.1; have z3 := hZ.2.2; go_simp; exact hR)); go_frame
                (apply S_val rfl; (first | exact wanted_none rfl | exact wanted_yes rfl rfl (by kernel_rfl)); (intro Z hZ R hR; have z1 := hZ.1; have z2 := hZ.2.1; have z3 := hZ.2.2; go_simp; exact hR)); go_frame
                (refine S_call rfl ?_ ?_ (Has_as B.length rfl (readsI SD.out.rs).1 (readsI SD.out.rs).2 false (decide_eq_false HN1.out)) ?_; (first | exact wanted_none rfl | exact wanted_yes rfl rfl (by kernel_rfl)); (focus (first | (go_simp; done) | (go_simp; rfl)))); rintro e we ⟨rfl, hb⟩; have SE := Aside0.mk (SD.out.below hb); refine ⟨_, rfl, ⟨cell_of SE.out.ab rfl, cell_of SE.out.ab rfl, elem_at (readsI SE.out.rt).1 j HX.out⟩, ?_⟩; clear hb; go_frame
                (apply S_val rfl; (first | exact wanted_none rfl | exact wanted_yes rfl rfl (by kernel_rfl)); (intro Z hZ R hR; have z1 := hZ.1; have z2 := hZ.2.1; have z3 := hZ.2.2; go_simp; exact hR)); go_frame
                (apply S_val rfl; (first | exact wanted_none rfl | exact wanted_yes rfl rfl (by kernel_rfl)); (intro Z hZ R hR; have z1 := hZ.1; have z2 := hZ.2.1; have z3 := hZ.2.2; go_simp; exact hR)); go_frame
                (apply S_val rfl; (first | exact wanted_none rfl | exact wanted_yes rfl rfl (by kernel_rfl)); (intro Z hZ R hR; have z1 := hZ.1; have z2 := hZ.2.1; have z3 := hZ.2.2; go_simp; exact hR)); go_frame
                (apply S_val rfl; (first | exact wanted_none rfl | exact wanted_yes rfl rfl (by kernel_rfl)); (intro Z hZ R hR; have z1 := hZ.1; have z2 := hZ.2.1; have z3 := hZ.2.2; go_simp; exact hR)); go_frame
                (apply S_val rfl; (first | exact wanted_none rfl | exact wanted_yes rfl rfl (by kernel_rfl)); (intro Z hZ R hR; have z1 := hZ.1; have z2 := hZ.2.1; have z3 := hZ.2.2; go_simp; exact hR)); go_frame
                (apply S_val rfl; (first | exact wanted_none rfl | exact wanted_yes rfl rfl (by kernel_rfl)); (intro Z hZ R hR; have z1 := hZ.1; have z2 := hZ.2.1; have z3 := hZ.2.2; go_simp; exact hR)); go_frame
                (apply S_val rfl; (first | exact wanted_none rfl | exact wanted_yes rfl rfl (by kernel_rfl)); (intro Z hZ R hR; have z1 := hZ.1; have z2 := hZ.2.1; have z3 := hZ.2.2; go_simp; exact hR)); go_frame
                (apply S_val rfl; (first | exact wanted_none rfl | exact wanted_yes rfl rfl (by kernel_rfl)); (intro Z hZ R hR; have z1 := hZ.1; have z2 := hZ.2.1; have z3 := hZ.2.2; go_simp; exact hR)); go_frame
                (apply S_val rfl; (first | exact wanted_none rfl | exact wanted_yes rfl rfl (by kernel_rfl)); (intro Z hZ R hR; have z1 := hZ.1; have z2 := hZ.2.1; have z3 := hZ.2.2; go_simp; exact hR)); go_frame
                (apply S_val rfl; (first | exact wanted_none rfl | exact wanted_yes rfl rfl (by kernel_rfl)); (intro Z hZ R hR; have z1 := hZ.1; have z2 := hZ.2.1; have z3 := hZ.2.2; go_simp; exact hR)); go_frame
                (apply S_val rfl; (first | exact wanted_none rfl | exact wanted_yes rfl rfl (by kernel_rfl)); (intro Z hZ R hR; have z1 := hZ.1; have z2 := hZ.2.1; have z3 := hZ.2.2; go_simp; exact hR)); go_frame
                (apply S_val rfl; (first | exact wanted_none rfl | exact wanted_yes rfl rfl (by kernel_rfl)); (intro Z hZ R hR; have z1 := hZ.1; have z2 := hZ.2.1; have z3 := hZ.2.2; go_simp; exact hR)); go_frame
                (refine S_call rfl ?_ ?_ (Has_as j (by rw [List.length_take]; have := HJ.out; omega) (C_take (readsI SE.out.rt).1 j (by have := HJ.out; omega)) hjc false (decide_eq_false HN2.out)) ?_; (first | exact wanted_none rfl | exact wanted_yes rfl rfl (by kernel_rfl)); (focus (first | (go_simp; done) | (go_simp; rfl)))); rintro e wf ⟨rfl, hb⟩; have SF := Aside0.mk (SE.out.below hb); refine ⟨_, rfl, ⟨cell_of SF.out.ab rfl, cell_of SF.out.ab rfl, elem_at (readsI SF.out.rt).1 j HX.out⟩, ?_⟩; clear hb; go_frame
                (apply S_val rfl; (first | exact wanted_none rfl | exact wanted_yes rfl rfl (by kernel_rfl)); (intro Z hZ R hR; have z1 := hZ.1; have z2 := hZ.2.1; have z3 := hZ.2.2; go_simp; exact hR)); go_frame
                apply S_nil
                go_wp2
                go_roundw
                case rel => exact ⟨j + 1, by omega, by go_num, SF.out⟩
                case measure => simp [intOf, hwk, hwj]; omega
              · have gj : decide ((j : Int) < (C.length : Int)) = false := decide_eq_false (by omega)
                have gjn : (j < C.length) = False := eq_false hj
                go_wp2
                go_loopw [15] (fun x wy => ∃ j : Nat, j ≤ M.length ∧ x = .int .i64 (j : Int) ∧ St w wy col f gv gb gn p1 q1 V W (.slice As B.length cs) (.slice At C.length ct) (.slice Au N.length cu) (.slice Av M.length cv) B C N M) (fun x _ => M.length - (intOf x).toNat)
                case atStart => exact ⟨0, by omega, rfl, SY.out⟩
                case round =>
                  obtain ⟨j, hj', rfl, hsy⟩ := hrel
                  clear SY
                  have SY := Aside0.mk hsy
                  clear hsy
                  have a1_ := cell_of SY.out.an (o := 1) rfl
                  have hbl : M.length ≤ 96 := by have h_ := TN.out.swap.len; omega
                  have hwk : wrap64 ((j : Int) + 1) = ((j + 1 : Nat) : Int) := by unfold wrap64; omega
                  have hwj : IntKind.i64.wrap ((j : Int) + 1) = ((j + 1 : Nat) : Int) := by simp [IntKind.wrap, IntKind.signed, IntKind.bits]; omega
                  by_cases hj : j < M.length
                  · have gj : decide ((j : Int) < (M.length : Int)) = true := decide_eq_true (by omega)
                    obtain ⟨x, hx⟩ : ∃ x, M[j]? = some x := ⟨_, List.getElem?_eq_getElem hj⟩
                    obtain ⟨ade, hA, hc0⟩ := Kd.at_int (readsI SY.out.rv).1 (j : Int) (by omega) (by omega)
                    subst hA
                    clear hc0
                    have HX := Aside0.mk hx
                    have hcap := (readsI SY.out.rv).2
                    have hjc : j ≤ cv := by omega
                    have HN1 := Aside0.mk (TN.out.swap.ap x (List.mem_of_getElem? hx))
                    have HN2 := Aside0.mk (not_before TN.out.swap.nl hx)
                    have HJ := Aside0.mk hj
                    have hjl : (j : Int) < (M.length : Int) := by omega
                    have hj0 : 0 ≤ (j : Int) := by omega
                    have hjc2 : (j : Int) ≤ (cv : Int) := by omega
                    clear hx
                    go_wp2
                    refine wp_region_text (fun Z => Z.cell? ⟨gn, 0, none⟩ = some (.slice Au N.length cu) ∧ Z.cell? ⟨gn, 1, none⟩ = some (.slice (some ade) M.length cv) ∧ Z.cell? (ade.add j) = some (.int .i64 x)) (fun i => [10, 23].contains i) (by kernel_rfl) (by kernel_rfl) ⟨cell_of SY.out.an rfl, cell_of SY.out.an rfl, elem_at (readsI SY.out.rv).1 j HX.out⟩ ?_
                    have SD := Aside0.mk SY.out.drew
                    clear SY
                    generalize wr.drew = wd at SD ⊢
                    (apply S_val rfl; (first | exact wanted_none rfl | exact wanted_yes rfl rfl (by kernel_rfl)); (intro Z hZ R hR; have z1 := hZ.1; have z2 := hZ.2.1; have z3 := hZ.2.2; go_simp; exact hR)); go_frame
                    (apply S_val rfl; (first | exact wanted_none rfl | exact wanted_yes rfl rfl (by kernel_rfl)); (intro Z hZ R hR; have z1 := hZ.1; have z2 := hZ.2.1; have z3 := hZ.2.2; go_simp; exact hR)); go_frame
                    (apply S_val rfl; (first | exact wanted_none rfl | exact wanted_yes rfl rfl (by kernel_rfl)); (intro Z hZ R hR; have z1 := hZ.1; have z2 := hZ.2.1; have z3 := hZ.2.2; go_simp; exact hR)); go_frame
                    (apply S_val rfl; (first | exact wanted_none rfl | exact wanted_yes rfl rfl (by kernel_rfl)); (intro Z hZ R hR; have z1 := hZ.1; have z2 := hZ.2.1; have z3 := hZ.2.2; go_simp; exact hR)); go_frame
                    (apply S_val rfl; (first | exact wanted_none rfl | exact wanted_yes rfl rfl (by kernel_rfl)); (intro Z hZ R hR; have z1 := hZ.1; have z2 := hZ.2.1; have z3 := hZ.2.2; go_simp; exact hR)); go_frame
                    (apply S_val rfl; (first | exact wanted_none rfl | exact wanted_yes rfl rfl (by kernel_rfl)); (intro Z hZ R hR; have z1 := hZ.1; have z2 := hZ.2.1; have z3 := hZ.2.2; go_simp; exact hR)); go_frame
                    (apply S_val rfl; (first | exact wanted_none rfl | exact wanted_yes rfl rfl (by kernel_rfl)); (intro Z hZ R hR; have z1 := hZ.1; have z2 := hZ.2.1; have z3 := hZ.2.2; go_simp; exact hR)); go_frame
                    (apply S_val rfl; (first | exact wanted_none rfl | exact wanted_yes rfl rfl (by kernel_rfl)); (intro Z hZ R hR; have z1 := hZ.1; have z2 := hZ.2.1; have z3 := hZ.2.2; go_simp; exact hR)); go_frame
                    (apply S_val rfl; (first | exact wanted_none rfl | exact wanted_yes rfl rfl (by kernel_rfl)); (intro Z hZ R hR; have z1 := hZ.1; have z2 := hZ.2.1; have z3 := hZ.2.2; go_simp; exact hR)); go_frame
                    (apply S_val rfl; (first | exact wanted_none rfl | exact wanted_yes rfl rfl (by kernel_rfl)); (intro Z hZ R hR; have z1 := hZ.1; have z2 := hZ.2.1; have z3 := hZ.2.2; go_simp; exact hR)); go_frame
                    (refine S_call rfl ?_ ?_ (Has_as N.length rfl (readsI SD.out.ru).1 (readsI SD.out.ru).2 false (decide_eq_false HN1.out)) ?_; (first | exact wanted_none rfl | exact wanted_yes rfl rfl (by kernel_rfl)); (focus (first | (go_simp; done) | (go_simp; rfl)))); rintro e we ⟨rfl, hb⟩; have SE := Aside0.mk (SD.out.below hb); refine ⟨_, rfl, ⟨cell_of SE.out.an rfl, cell_of SE.out.an rfl, elem_at (readsI SE.out.rv).1 j HX.out⟩, ?_⟩; clear hb; go_frame
                    (apply S_val rfl; (first | exact wanted_none rfl | exact wanted_yes rfl rfl (by kernel_rfl)); (intro Z hZ R hR; have z1 := hZ.1; have z2 := hZ.2.1; have z3 := hZ.2.2; go_simp; exact hR)); go_frame
                    (apply S_val rfl; (first | exact wanted_none rfl | exact wanted_yes rfl rfl (by kernel_rfl)); (intro Z hZ R hR; have z1 := hZ.1; have z2 := hZ.2.1; have z3 := hZ.2.2; go_simp; exact hR)); go_frame
                    (apply S_val rfl; (first | exact wanted_none rfl | exact wanted_yes rfl rfl (by kernel_rfl)); (intro Z hZ R hR; have z1 := hZ.1; have z2 := hZ.2.1; have z3 := hZ.2.2; go_simp; exact hR)); go_frame
                    (apply S_val rfl; (first | exact wanted_none rfl | exact wanted_yes rfl rfl (by kernel_rfl)); (intro Z hZ R hR; have z1 := hZ.1; have z2 := hZ.2.1; have z3 := hZ.2.2; go_simp; exact hR)); go_frame
                    (apply S_val rfl; (first | exact wanted_none rfl | exact wanted_yes rfl rfl (by kernel_rfl)); (intro Z hZ R hR; have z1 := hZ.1; have z2 := hZ.2.1; have z3 := hZ.2.2; go_simp; exact hR)); go_frame
                    (apply S_val rfl; (first | exact wanted_none rfl | exact wanted_yes rfl rfl (by kernel_rfl)); (intro Z hZ R hR; have z1 := hZ.1; have z2 := hZ.2.1; have z3 := hZ.2.2; go_simp; exact hR)); go_frame
                    (apply S_val rfl; (first | exact wanted_none rfl | exact wanted_yes rfl rfl (by kernel_rfl)); (intro Z hZ R hR; have z1 := hZ.1; have z2 := hZ.2.1; have z3 := hZ.2.2; go_simp; exact hR)); go_frame
                    (apply S_val rfl; (first | exact wanted_none rfl | exact wanted_yes rfl rfl (by kernel_rfl)); (intro Z hZ R hR; have z1 := hZ.1; have z2 := hZ.2.1; have z3 := hZ.2.2; go_simp; exact hR)); go_frame
                    (apply S_val rfl; (first | exact wanted_none rfl | exact wanted_yes rfl rfl (by kernel_rfl)); (intro Z hZ R hR; have z1 := hZ.1; have z2 := hZ.2.1; have z3 := hZ.2.2; go_simp; exact hR)); go_frame
                    (apply S_val rfl; (first | exact wanted_none rfl | exact wanted_yes rfl rfl (by kernel_rfl)); (intro Z hZ R hR; have z1 := hZ.1; have z2 := hZ.2.1; have z3 := hZ.2.2; go_simp; exact hR)); go_frame
                    (apply S_val rfl; (first | exact wanted_none rfl | exact wanted_yes rfl rfl (by kernel_rfl)); (intro Z hZ R hR; have z1 := hZ.1; have z2 := hZ.2.1; have z3 := hZ.2.2; go_simp; exact hR)); go_frame
                    (apply S_val rfl; (first | exact wanted_none rfl | exact wanted_yes rfl rfl (by kernel_rfl)); (intro Z hZ R hR; have z1 := hZ.1; have z2 := hZ.2.1; have z3 := hZ.2.2; go_simp; exact hR)); go_frame
                    (refine S_call rfl ?_ ?_ (Has_as j (by rw [List.length_take]; have := HJ.out; omega) (C_take (readsI SE.out.rv).1 j (by have := HJ.out; omega)) hjc false (decide_eq_false HN2.out)) ?_; (first | exact wanted_none rfl | exact wanted_yes rfl rfl (by kernel_rfl)); (focus (first | (go_simp; done) | (go_simp; rfl)))); rintro e wf ⟨rfl, hb⟩; have SF := Aside0.mk (SE.out.below hb); refine ⟨_, rfl, ⟨cell_of SF.out.an rfl, cell_of SF.out.an rfl, elem_at (readsI SF.out.rv).1 j HX.out⟩, ?_⟩; clear hb; go_frame
                    (apply S_val rfl; (first | exact wanted_none rfl | exact wanted_yes rfl rfl (by kernel_rfl)); (intro Z hZ R hR; have z1 := hZ.1; have z2 := hZ.2.1; have z3 := hZ.2.2; go_simp; exact hR)); go_frame
                    apply S_nil
                    go_wp2
                    go_roundw
                    case rel => exact ⟨j + 1, by omega, by go_num, SF.out⟩
                    case measure => simp [intOf, hwk, hwj]; omega
                  · have gj : decide ((j : Int) < (M.length : Int)) = false := decide_eq_false (by omega)
                    have gjn : (j < M.length) = False := eq_false hj
                    go_wp2
                    go_roundw
                    case rel => exact ⟨2, by omega, by go_num, SY.out⟩
                    case measure => simp [intOf]
          · go_wp2
            go_ret
            exact ⟨rfl, SZ.out.be⟩
end Go.Proofs.Ytpkfdoefpmgfiaa.Sto
