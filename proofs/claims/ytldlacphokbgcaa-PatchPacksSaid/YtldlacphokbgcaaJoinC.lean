/- Two patches as one: the walk. -/
import Derived.Test.YtldlacphokbgcaaJoinB
import Derived.Test.YtldlacphokbgcaaHHands
namespace Go.Proofs.Ytldlacphokbgcaa.Jo
open Go Go.Maps Go.RowKit Go.Proofs.Ytldlacphokbgcaa.ML Go.Proofs.Ytldlacphokbgcaa.Print Go.Proofs.YtldlacphokbgcaaW.PrintWords Go.Proofs.YtldlacphokbgcaaW.PrintLast Go.Proofs.YtldlacphokbgcaaW.PrintMore
set_option linter.unusedVariables false
set_option linter.unusedSimpArgs false
theorem ekU_val (v : Int) : ekU.val v = .int .u64 v := rfl
def joinM (s : List Ch) : List (Int × Int) := s.foldl (fun m c => put m c.f0 c.f1) []
def canonL (m : List (Int × Int)) : List Ch := m.map fun y => ⟨y.1, y.2⟩
def okc (c : Ch) : Bool := (Lit.int .i64 c.f0).wf && (Lit.int .u64 c.f1).wf
theorem joinM_snoc (s : List Ch) (c : Ch) : joinM (s ++ [c]) = put (joinM s) c.f0 c.f1 := by unfold joinM; rw [List.foldl_append]; rfl
theorem snocI {α : Type} {p : List α → Prop} (h0 : p []) (h1 : ∀ l x, p l → p (l ++ [x])) (l : List α) : p l := by
  rw [← List.reverse_reverse l]
  induction l.reverse with
  | nil => exact h0
  | cons x r ih => rw [List.reverse_cons]; exact h1 _ _ ih
theorem joinM_len (s : List Ch) : (joinM s).length ≤ s.length := by
  induction s using snocI with
  | h0 => exact Nat.le_refl _
  | h1 l y ih => rw [joinM_snoc, List.length_append]; have := length_put (joinM l) y.f0 y.f1; simp; omega
theorem joinM_sorted (s : List Ch) : Sorted (joinM s) := by
  induction s using snocI with
  | h0 => exact List.Pairwise.nil
  | h1 l y ih => rw [joinM_snoc]; exact sorted_put ih _ _
theorem joinM_key {s : List Ch} {y : Int × Int} (h : y ∈ joinM s) : ∃ c ∈ s, c.f0 = y.1 := by
  revert h
  induction s using snocI with
  | h0 => intro h; cases h
  | h1 l c ih =>
    intro h
    rw [joinM_snoc] at h
    unfold put at h
    rcases mem_ins.1 h with rfl | h
    · exact ⟨c, by simp, rfl⟩
    · obtain ⟨d, hd, e⟩ := ih (List.mem_filter.1 h).1
      exact ⟨d, by simp [hd], e⟩
/-- But for one block nothing has turned. -/
structure Keeps (b : Nat) (w w' : World) : Prop where
  size : w.heap.size ≤ w'.heap.size
  block : ∀ k, k < w.heap.size → k ≠ b → w'.heap[k]? = w.heap[k]?
theorem Keeps.refl (b : Nat) (w : World) : Keeps b w w := ⟨Nat.le_refl _, fun _ _ _ => rfl⟩
theorem Keeps.below {b : Nat} {w a c : World} (h : Keeps b w a) (k : Below a.heap.size a c) : Keeps b w c := ⟨Nat.le_trans h.size k.size, fun i hi hn => (k.block i (Nat.lt_of_lt_of_le hi h.size)).trans (h.block i hi hn)⟩
theorem Keeps.grown {b r : Nat} {w a c : World} (h : Keeps b w a) (k : a.grownBy c (some r)) (hr : r = b ∨ w.heap.size ≤ r) : Keeps b w c :=
  ⟨Nat.le_trans h.size k.size, fun i hi hn => (k.block i (Nat.lt_of_lt_of_le hi h.size) (by simp; rcases hr with rfl | hr <;> omega)).trans (h.block i hi hn)⟩
theorem Keeps.cell {b : Nat} {w a : World} (h : Keeps b w a) (hb : ∃ es cl, w.heap[b]? = some (.map es cl)) {p : Addr} {v : Value} (hx : w.cell? p = some v) : a.cell? p = some v := by
  have hlt := World.block_lt_of_cell? w p hx
  obtain ⟨es, cl, hm⟩ := hb
  have hne : p.block ≠ b := by
    rintro rfl
    simp [World.cell?, hm] at hx
  rw [← hx]
  unfold World.cell?
  rw [h.block p.block hlt hne]
theorem IsMb {w w' : World} {b : Nat} {m : List (Int × Int)} (h : IsM ekU 3 w b m) (hb : Below w.heap.size w w') : IsM ekU 3 w' b m := h.block (hb.block b h.lt)
theorem lit_event {P : Program} {ops : Array Oper} {rest : List Oper} {o : Oper} {a : Act} {Q : Exit → Act → World → Prop} {W : World} (hgd : o.guard = none) {N : Tmp} (_hd : o.dst = some N) {v : Value} {cs : Array Value} {t : TypeId}
    (hrun : (execOp a.eval o).run P W = .ok (.value v) (W.alloc (.cells cs t (0, 0)))) (h : ∀ w1, w1.heap[W.heap.size]? = some (.cells cs t (0, 0)) → Below W.heap.size W w1 → wpList P ops Q rest (a.put o.dst v) w1) : wpList P ops Q (o :: rest) a W :=
  Kd.event_run hgd hrun (h _ (blk_new W _) (below_alloc (Below.refl _ _) _))
theorem map_event {ops : Array Oper} {rest : List Oper} {o : Oper} {a : Act} {Q : Exit → Act → World → Prop} {W : World} (hgd : o.guard = none) {N : Tmp} (_hd : o.dst = some N) {t : TypeId} (ho : o.op = Op.makeMap t none)
    (h : ∀ b w1, b = W.heap.size → IsM ekU 3 w1 b [] → Below W.heap.size W w1 → wpList Try.prog ops Q rest (a.put o.dst (.map (some b))) w1) : wpList Try.prog ops Q (o :: rest) a W := by
  have hrun : (execOp a.eval o).run Try.prog W = .ok (.value (.map (some W.heap.size))) (W.alloc (.map #[] 0)) := by
    have h := @run_makeMap Try.prog t W
    simp [execOp, ho, h, Result.andThen]
  exact Kd.event_run hgd hrun (h _ _ rfl (IsM.made W) (below_alloc (Below.refl _ _) _))
set_option maxHeartbeats 200000 in
theorem Join_both {k : Nat} {w : World} {A : Option Addr} {c : Nat} {p : List Ch} {B : Option Addr} {d : Nat} {q : List Ch} (hp : Kd.C k31 w A p.length p) (hc : p.length ≤ c) (hq : Kd.C k31 w B q.length q) (hd : q.length ≤ d) (hn : p.length + q.length ≤ 1000000) (hR : patch_Right.f k p = some true) (hS : patch_Right.f k q = some true) (hw : ∀ x ∈ p ++ q, okc x = true) :
    Calls Try.prog 22 #[.slice A p.length c, .slice B q.length d] w fun e w' => ∃ v, e = .returned v ∧ Kd.R k31 31 w' w.heap.size (fun _ => True) v (canonL (joinM (p ++ q))) ∧ Below w.heap.size w w' := by
  have hu := Try.underlying55
  obtain ⟨s, hs⟩ : ∃ s, p ++ q = s := ⟨_, rfl⟩
  have hsl : s.length ≤ 1000000 := by rw [← hs]; simp; omega
  rw [hs] at hw ⊢
  have SE := Aside0.mk hs
  have HP := Aside0.mk hp
  have HQ := Aside0.mk hq
  have HR := Aside0.mk hR
  have HS := Aside0.mk hS
  have HW := Aside0.mk hw
  have HC := Aside0.mk hc
  have HD := Aside0.mk hd
  clear hp hq hR hS hw hc hd hs
  go_enter Try.func22, Try.ntmps22
  go_wp2_with (first
    | (go_at_call 12; have h_ := B1; clear h_; refine (patch_Right.calls k B d q true _ (Kd.C_below HQ.out B1.out) HD.out HS.out).mono ?_; rintro e w2 ⟨rfl, hb⟩; have B2 := Aside0.mk (B1.out.trans (hb.mono B1.out.size)); clear hb)
    | (go_at_call 12; refine (patch_Right.calls k A c p true _ HP.out HC.out HR.out).mono ?_; rintro e w1 ⟨rfl, hb⟩; have B1 := Aside0.mk hb; clear hb)
    | ((with_reducible refine gate_dst (N := 19) rfl ?_); refine map_event ?hg (N := 19) ?hd (t := 48) ?ho ?_; (case ho => rfl); (case hd => rfl); (case hg => rfl); intro b wm hbm hm hb; have MM := Aside0.mk hm; have BM := Aside0.mk (B2.out.trans (hb.mono B2.out.size)); have BB := Aside0.mk (show w.heap.size ≤ b by rw [hbm]; exact B2.out.size); clear hbm hm hb)
    | ((with_reducible refine gate_dst (N := 22) rfl ?_); refine lit_event ?hg (N := 22) ?hd (v := .slice (some ⟨wm.heap.size, 0, none⟩) 2 2) (cs := #[.slice A p.length c, .slice B q.length d]) (t := 22) ?hr ?_; (case hd => rfl); (case hg => rfl); (case hr => first | (go_simp; done) | (go_simp; rfl)); intro w3 hbox hb; have BX := Aside0.mk hbox; have B3 := Aside0.mk (BM.out.trans (hb.mono BM.out.size)); have M3 := Aside0.mk (IsMb MM.out hb); clear hb hbox)
    | (go_at_call 31; refine (Concat_calls BX.out (Kd.C_below HP.out B3.out) (Kd.C_below HQ.out B3.out) HC.out HD.out hn).mono ?_; rintro e w4 ⟨v, rfl, ho, hb⟩; rw [SE.out] at ho; obtain ⟨C, n, rfl, hCn, hCC⟩ := Kd.R_reads ho; have RC := Aside0.mk hCC; have B4 := Aside0.mk (B3.out.trans (hb.mono B3.out.size)); have M4 := Aside0.mk (IsMb M3.out hb); clear ho hb hCn hCC))
  have OB := Aside0.mk M4.out.obj
  clear HP HQ B1 B2 BM B3 BX MM M3 HR HS HC HD hu hn
  go_loopw [25] (fun x25 wr => ∃ j : Nat, j ≤ s.length ∧ x25 = .int .i64 (j : Int) ∧ Aside0 (IsM ekU 3 wr b (joinM (s.take j))) ∧ Aside0 (Below w.heap.size w wr) ∧ Aside0 (Keeps b w4 wr)) (fun x25 _ => s.length - (intOf x25).toNat)
  case atStart => exact ⟨0, by omega, rfl, M4, B4, ⟨Keeps.refl _ _⟩⟩
  case round =>
    obtain ⟨j, hj, rfl, HM, HB, HK⟩ := hrel
    by_cases hlt : j < s.length
    · obtain ⟨ad, hA, x0, x1⟩ := at_T31 RC.out (j : Int) (by omega) (by omega)
      have hrd : rd_T31 s (j : Int) = s[j] := by unfold rd_T31; simp [hlt]
      obtain ⟨ky, hky⟩ : ∃ ky, s[j].f0 = ky := ⟨_, rfl⟩
      obtain ⟨vl, hvl⟩ : ∃ vl, s[j].f1 = vl := ⟨_, rfl⟩
      have hok := HW.out _ (List.getElem_mem hlt)
      unfold okc at hok
      rw [Bool.and_eq_true, hky, hvl] at hok
      have K0 := Aside0.mk hok.1
      have K1 := Aside0.mk hok.2
      rw [hrd, hky, Int.toNat_natCast] at x0
      rw [hrd, hvl, Int.toNat_natCast] at x1
      replace x0 := HK.out.cell OB.out x0
      replace x1 := HK.out.cell OB.out x1
      have LJ := Aside0.mk (show (joinM (s.take j)).length ≤ j by have := joinM_len (s.take j); rw [List.length_take] at this; omega)
      have TS := Aside0.mk (show joinM (s.take (j + 1)) = put (joinM (s.take j)) ky vl by rw [List.take_add_one, List.getElem?_eq_getElem hlt, ← hky, ← hvl]; exact joinM_snoc _ _)
      subst hA
      clear hok hrd hky hvl
      go_wp2_with (first
        | ((with_reducible refine gate_dst (N := 7) rfl ?_); refine box_event ?hg (N := 7) ?hd (cs := #[.int .i64 0, .int .u64 0]) (t := 31) ?hr ?_; (case hd => rfl); (case hg => rfl); (case hr => first | (go_simp; done) | (go_simp; rfl)); intro gb hg w6 hbox hb; have HB2 := Aside0.mk (HB.out.trans (hb.mono HB.out.size)); have HK2 := Aside0.mk (HK.out.below hb); have HM2 := Aside0.mk (IsMb HM.out hb); have GE := Aside0.mk (show w4.heap.size ≤ gb by rw [hg]; exact HK.out.size); have GW := Aside0.mk (show w.heap.size ≤ gb by rw [hg]; exact HB.out.size); have GN := Aside0.mk (show b ≠ gb by rw [hg]; have := HM.out.lt; omega); have BK := Aside0.mk hbox; clear hg hb hbox)
        | ((with_reducible refine gate_store (t := 31) (p := 7) rfl ?_); refine store_event (t := 31) (p := 7) (v := .tmp 28) (w1 := w6.setCells gb 0 [.int .i64 ky, .int .u64 vl]) ?hg ?ho ?hn ?hr ?_; (case ho => rfl); (case hg => rfl); (case hn => rfl); (case hr => exact store_exec rfl rfl rfl (run_store_run (P := Try.prog) (o := 0) 31 (.agg #[.int .i64 ky, .int .u64 vl]) [.int .i64 ky, .int .u64 vl] BK.out rfl (by kernel_rfl) (Nat.le_refl 2) (fun q hq => by simp only [List.mem_cons, List.not_mem_nil, or_false] at hq; rcases hq with rfl | rfl <;> rfl))); intro w8 hw; have HB3 := Aside0.mk (show Below w.heap.size w w8 by rw [hw]; exact below_store _ HB2.out GW.out); have HG3 := Aside0.mk (show w6.grownBy w8 (some gb) by rw [hw]; exact grown_store _); have HM3 := Aside0.mk (HM2.out.block (HG3.out.block b HM2.out.lt (by have := GN.out; simp; omega))); have HK3 := Aside0.mk (HK2.out.grown HG3.out (Or.inr GE.out)); have hbk := (by rw [hw]; exact store_all _ BK.out rfl : w8.heap[gb]? = some (.cells #[.int .i64 ky, .int .u64 vl] 31 (0, 0))); have hcz0 : w8.cell? ⟨gb, 0, none⟩ = some (.int .i64 ky) := (blk_cell hbk 0).trans rfl; have hcz1 : w8.cell? ⟨gb, 1, none⟩ = some (.int .u64 vl) := (blk_cell hbk 1).trans rfl; clear hw hbk)
        | (at_mapUpdate; refine wp_put (x := ekU) mtM rfl _ _ _ rfl rfl HM3.out (by have := LJ.out; omega) ky vl rfl rfl K0.out K1.out ?_; intro w9 hm2 ht2; have HM9 := Aside0.mk hm2; have HB9 := Aside0.mk (HB3.out.grown (turned_of ht2) HB3.out.size (fun x hx => by cases hx; exact BB.out)); have HK9 := Aside0.mk (HK3.out.grown (turned_of ht2) (Or.inl rfl)); clear hm2 ht2))
      go_roundw
      all_goals first | exact ⟨j + 1, by omega, by go_num, ⟨by rw [TS.out]; exact HM9.out⟩, HB9, HK9⟩ | (simp [intOf]; omega)
    · have hj' : j = s.length := by omega
      have hm := HM.out
      rw [hj', List.take_length] at hm
      have HM' := Aside0.mk hm
      clear hm HM hj'
      have hml : (joinM s).length ≤ s.length := joinM_len s
      have hms := joinM_sorted s
      have hkk : ∀ y ∈ joinM s, (Lit.int .i64 y.1).wf = true := fun y hy => by
        obtain ⟨c, hc, e⟩ := joinM_key hy
        have := HW.out c hc
        unfold okc at this
        rw [Bool.and_eq_true] at this
        rw [← e]; exact this.1
      obtain ⟨m, hm⟩ : ∃ m, joinM s = m := ⟨_, rfl⟩
      rw [hm] at HM' hml hms hkk
      have EM := Aside0.mk hm
      have MS := Aside0.mk hms
      have MK := Aside0.mk hkk
      have ML1 := Aside0.mk (show (m.map (·.1)).length = m.length from List.length_map ..)
      clear hm hms hkk HK M4 RC OB B4
      have huC := Try.underlying22
      go_wp2_with (first
        | (go_at_call 33; refine (Keys_calls b _).mono ?_; rintro e w10 ⟨rfl, hw10⟩; have hb10 := (show Below wr.heap.size wr w10 by rw [hw10]; exact below_alloc (Below.refl _ _) _); have G10 := Aside0.mk (show w10.heap[wr.heap.size]? = some (.cells #[.map (some b)] 48 (0, 0)) by rw [hw10]; exact blk_new _ _); have M10 := Aside0.mk (IsMb HM'.out hb10); have B10 := Aside0.mk (HB.out.trans (hb10.mono HB.out.size)); clear hw10 hb10)
        | (go_at_call 32; refine (Sorted_calls G10.out M10.out MS.out (by omega)).mono ?_; rintro e w11 ⟨v, rfl, ho, hb⟩; obtain ⟨C2, n2, rfl, hC2, hR2⟩ := Kd.R_reads ho; rw [ML1.out] at hR2 ⊢; have RK := Aside0.mk hR2; have M11 := Aside0.mk (IsMb M10.out hb); have B11 := Aside0.mk (B10.out.trans (hb.mono B10.out.size)); clear ho hb hC2 hR2))
      clear M10 G10 B10 HM' HB
      go_loopw [8, 39] (fun v8 x39 wr => ∃ j : Nat, j ≤ m.length ∧ x39 = .int .i64 (j : Int) ∧ Aside0 (Kd.R k31 31 wr w11.heap.size (fun _ => True) v8 (canonL (m.take j))) ∧ Aside0 (Below w11.heap.size w11 wr)) (fun _ x39 _ => m.length - (intOf x39).toNat)
      case atStart => exact ⟨0, by omega, rfl, ⟨Kd.R_nil _ _ _ _ _⟩, ⟨Below.refl _ _⟩⟩
      case round =>
        obtain ⟨j, hj, rfl, HO, HB⟩ := hrel
        by_cases hlt2 : j < m.length
        · obtain ⟨ky, hky⟩ : ∃ ky, m[j].1 = ky := ⟨_, rfl⟩
          obtain ⟨vl, hvl⟩ : ∃ vl, m[j].2 = vl := ⟨_, rfl⟩
          have hrk : rd (m.map (·.1)) (j : Int) = ky := by unfold rd; simp [hlt2, hky]
          obtain ⟨ad, hA, x0⟩ := Kd.at_int (Kd.C_below RK.out HB.out) (j : Int) (by omega) (by omega)
          rw [hrk, Int.toNat_natCast] at x0
          have K0 := Aside0.mk (hky ▸ MK.out _ (List.getElem_mem hlt2))
          have GV := Aside0.mk (show (get m ky).getD ekU.zero = vl by rw [get_of_mem MS.out (k := ky) (v := vl) (by rw [← hky, ← hvl]; exact List.getElem_mem hlt2)]; rfl)
          have TS := Aside0.mk (show canonL (m.take (j + 1)) = canonL (m.take j) ++ [⟨ky, vl⟩] by unfold canonL; rw [List.take_add_one, List.getElem?_eq_getElem hlt2, ← hky, ← hvl, List.map_append]; rfl)
          have TL := Aside0.mk (show (canonL (m.take j)).length = j by unfold canonL; simp; omega)
          subst hA
          clear hrk hky hvl
          go_wp2_with (first
            | (at_lookup; refine wp_look (x := ekU) mtM rfl _ _ rfl rfl (IsMb M11.out HB.out) ky rfl K0.out ?_; rw [GV.out, ekU_val])
            | ((with_reducible refine gate_builtin (b := .append) (xs := #[.tmp 43, .tmp 49]) rfl ?_); at_builtin; refine Kd.R_append k31 (w0 := w11) w11.heap.size rfl (.tmp 43) (.tmp 49) 22 31 (.agg #[.int .i64 0, .int .u64 0]) 16 rfl Try.underlying22 info31 rfl (by decide) (by omega) u8 (canonL (m.take j)) (⟨ky, vl⟩ : Ch) [.int .i64 ky, .int .u64 vl] (fun _ => True) (fun _ => False) rfl rfl ?aP (fun _ hk => hk.elim) ?aF ?aO ?aB ?aS ?aL ?_; (case aP => exact k31_mkM _ _ _ (⟨ky, vl⟩ : Ch)); (case aB => exact HB.out); (case aF => exact (fun _ _ => trivial)); (case aO => exact HO.out); (case aS => exact below_size HB.out); (case aL => rw [TL.out]; omega); intro v50 w12 ho hb hg hat; have HO2 := Aside0.mk ho; have HB2 := Aside0.mk hb; clear ho hb hg hat))
          go_roundw
          all_goals first | exact ⟨j + 1, by omega, by go_num, ⟨by rw [TS.out]; exact HO2.out⟩, HB2⟩ | (simp [intOf]; omega)
        · have hj' : j = m.length := by omega
          have ho := HO.out
          rw [hj', List.take_length, ← EM.out] at ho
          have HO2 := Aside0.mk (Kd.R_lower ho B11.out.size)
          clear ho hj'
          go_wp2
          go_ret
          exact ⟨_, rfl, HO2.out, B11.out.trans (HB.out.mono B11.out.size)⟩
set_option maxHeartbeats 400000 in
theorem Join_not {k : Nat} {w : World} {A : Option Addr} {c : Nat} {p : List Ch} {B : Option Addr} {d : Nat} {q : List Ch} (hp : Kd.C k31 w A p.length p) (hc : p.length ≤ c) (hq : Kd.C k31 w B q.length q) (hd : q.length ≤ d) (hR : patch_Right.f k p = some false ∨ (patch_Right.f k p = some true ∧ patch_Right.f k q = some false)) :
    Calls Try.prog 22 #[.slice A p.length c, .slice B q.length d] w fun e w' => ∃ v, e = .returned v ∧ Kd.R k31 31 w' w.heap.size (fun _ => True) v ([] : List Ch) ∧ Below w.heap.size w w' := by
  have HP := Aside0.mk hp
  have HQ := Aside0.mk hq
  have HC := Aside0.mk hc
  have HD := Aside0.mk hd
  clear hp hq hc hd
  rcases hR with h | ⟨h, h2⟩
  · have HR := Aside0.mk h
    clear h
    go_enter Try.func22, Try.ntmps22
    go_wp2_with (go_at_call 12; refine (patch_Right.calls k A c p false _ HP.out HC.out HR.out).mono ?_; rintro e w1 ⟨rfl, hb⟩; have B1 := Aside0.mk hb; clear hb)
    go_ret
    exact ⟨_, rfl, Kd.R_nil _ _ _ _ _, B1.out⟩
  · have HR := Aside0.mk h
    have HS := Aside0.mk h2
    clear h h2
    go_enter Try.func22, Try.ntmps22
    go_wp2_with (first
      | (go_at_call 12; have h_ := B1; clear h_; refine (patch_Right.calls k B d q false _ (Kd.C_below HQ.out B1.out) HD.out HS.out).mono ?_; rintro e w2 ⟨rfl, hb⟩; have B2 := Aside0.mk (B1.out.trans (hb.mono B1.out.size)); clear hb)
      | (go_at_call 12; refine (patch_Right.calls k A c p true _ HP.out HC.out HR.out).mono ?_; rintro e w1 ⟨rfl, hb⟩; have B1 := Aside0.mk hb; clear hb))
    go_ret
    exact ⟨_, rfl, Kd.R_nil _ _ _ _ _, B2.out⟩
end Go.Proofs.Ytldlacphokbgcaa.Jo
