/- Rows are behind the edge, don't meet, and are all that is. -/
import Derived.Test.YtngncegokmppiaaFloT
namespace Go.Proofs.Ytngncegokmppiaa.Flo
open Go Go.RowKit Go.Proofs.Ytngncegokmppiaa.Reg Go.Proofs.YtngncegokmppiaaW.PrintWords Go.Proofs.YtngncegokmppiaaW.PrintLast Go.Proofs.YtngncegokmppiaaW.PrintMore
set_option linter.unusedVariables false
set_option linter.unusedSimpArgs false
theorem info_B : (Try.prog.info? 4).map (fun i => (i.zero, i.size, i.bytes)) = some (some (.bool false), 1, 1) := by kernel_rfl
theorem flo_take {w : World} {A : Option Addr} {n : Nat} {l : List Nat} (h : Kd.C kF w A n l) (m : Nat) (hm : m ≤ n) : Kd.C kF w A m (l.take m) := by
  obtain ⟨h1, h2, h3⟩ := h
  refine ⟨by rw [List.length_take]; omega, by omega, fun h0 => ?_⟩
  obtain ⟨ad, hA, h4⟩ := h3 (by omega)
  refine ⟨ad, hA, fun j p hj => h4 j p ?_⟩
  rw [List.getElem?_take] at hj
  split at hj
  · exact hj
  · cases hj
/-- Which places stand in one of some rows. -/
def inAny (rs : List (Int × Int)) (k : Nat) : Bool := rs.any fun p => decide (p.1 ≤ k) && decide ((k : Int) < p.1 + p.2)
def marksOf (rs : List (Int × Int)) (n : Nat) : List Bool := (List.range n).map (inAny rs)
theorem marksOf_len (rs : List (Int × Int)) (n : Nat) : (marksOf rs n).length = n := by simp [marksOf]
theorem marksOf_nil (n : Nat) : marksOf [] n = List.replicate n false := by
  unfold marksOf
  refine List.ext_getElem (by simp) fun i h1 h2 => ?_
  simp [inAny]
theorem marksOf_at (rs : List (Int × Int)) (n k : Nat) (h : k < n) : (marksOf rs n).getD k false = inAny rs k := by
  unfold marksOf
  simp [List.getD_eq_getElem?_getD, h]
theorem marksOf_get (rs : List (Int × Int)) (n i : Nat) : (marksOf rs n)[i]? = if i < n then some (inAny rs i) else none := by
  unfold marksOf
  by_cases h : i < n
  · rw [if_pos h]; simp [h]
  · rw [if_neg h]; simp; omega
theorem inAny_snoc (rs : List (Int × Int)) (p : Int × Int) (i : Nat) : inAny (rs ++ [p]) i = (inAny rs i || (decide (p.1 ≤ i) && decide ((i : Int) < p.1 + p.2))) := by
  simp [inAny]
/-- One mark more: the places of the rows and those of a new one up to k. -/
theorem marksOf_step (rs : List (Int × Int)) (n : Nat) (s : Int) (k : Nat) (h0 : s ≤ k) (hk : k < n) : (marksOf (rs ++ [(s, (k : Int) - s)]) n).set k true = marksOf (rs ++ [(s, ((k + 1 : Nat) : Int) - s)]) n := by
  refine List.ext_getElem? fun i => ?_
  rw [List.getElem?_set, marksOf_get, marksOf_get, marksOf_len]
  by_cases e : k = i
  · subst e
    rw [if_pos rfl, if_pos hk, if_pos hk, inAny_snoc]
    simp only
    rw [decide_eq_true (show s ≤ (k : Int) from h0), decide_eq_true (show (k : Int) < s + (((k + 1 : Nat) : Int) - s) by omega)]
    simp
  · rw [if_neg e]
    by_cases hi : i < n
    · rw [if_pos hi, if_pos hi, inAny_snoc, inAny_snoc]
      simp only
      have e1 : decide ((i : Int) < s + ((k : Int) - s)) = decide ((i : Int) < s + (((k + 1 : Nat) : Int) - s)) := decide_eq_decide.2 (by omega)
      rw [e1]
    · rw [if_neg hi, if_neg hi]
theorem marksOf_none (rs : List (Int × Int)) (n : Nat) (s : Int) : marksOf (rs ++ [(s, s - s)]) n = marksOf rs n := by
  unfold marksOf
  refine List.map_congr_left fun k _ => ?_
  simp only [inAny, List.any_append, List.any_cons, List.any_nil, Bool.or_false]
  rw [show (decide (s ≤ (k : Int)) && decide ((k : Int) < s + (s - s))) = false by
    by_cases h : s ≤ (k : Int)
    · rw [decide_eq_false (show ¬ ((k : Int) < s + (s - s)) by omega)]; simp
    · rw [decide_eq_false h]; rfl]
  rw [Bool.or_false]
theorem cell_b {w w' : World} (hb : Below w.heap.size w w') {a : Addr} {u : Value} (h : w.cell? a = some u) : w'.cell? a = some u := by
  have hs : a.block < w.heap.size := by
    by_cases hx : a.block < w.heap.size
    · exact hx
    · exfalso
      have e : w.heap[a.block]? = none := by simp; omega
      unfold World.cell? at h
      simp [e] at h
  have e := hb.block a.block hs
  unfold World.cell? at h ⊢
  rw [e]
  exact h
theorem rows_len : ∀ (rs : List (Int × Int)) (a b : Int), (∀ p ∈ rs, a ≤ p.1 ∧ 1 ≤ p.2 ∧ p.1 + p.2 ≤ b) → rs.Pairwise (fun p q => p.1 + p.2 < q.1) → a ≤ b → (rs.length : Int) ≤ b - a
  | [], a, b, _, _, h => by simp; omega
  | p :: t, a, b, h1, h2, h => by
    have hp := h1 p (List.mem_cons_self ..)
    rw [List.pairwise_cons] at h2
    have := rows_len t (p.1 + p.2) b (fun q hq => ⟨by have := h2.1 q hq; omega, (h1 q (List.mem_cons_of_mem _ hq)).2⟩) h2.2 (by omega)
    rw [List.length_cons]
    omega
set_option maxHeartbeats 8000000 in
set_option maxRecDepth 100000 in
theorem MeterRuns_calls (w : World) (A0 : Option Addr) (c0 : Nat) (l : List Nat) (edge : Nat) (hr : Kd.C kF w A0 l.length l) (hc : l.length ≤ c0) : Calls Try.prog 3 #[.slice A0 l.length c0, .float .f64 edge] w fun e w' => e = .returned (.bool true) ∧ Below w.heap.size w w' := by
  obtain ⟨m, hm⟩ : ∃ m, min l.length 60 = m := ⟨_, rfl⟩
  have hm60 : m ≤ 60 := by omega
  obtain ⟨bs, hbs⟩ : ∃ bs, bitsOf (l.take m) edge = bs := ⟨_, rfl⟩
  have hbl : bs.length = m := by rw [← hbs]; unfold bitsOf; rw [List.length_map, List.length_take]; omega
  obtain ⟨rs, hrs⟩ : ∃ rs, runsL bs = rs := ⟨_, rfl⟩
  have RW := Aside0.mk (show Rows bs rs by rw [← hrs]; exact runsL_rows bs)
  have hrl : rs.length ≤ m := by have h_ := rows_len rs 0 bs.length RW.out.a RW.out.b (by omega); omega
  have CT := Aside0.mk (flo_take hr m (by omega))
  have TL := Aside0.mk (show (l.take m).length = m by rw [List.length_take]; omega)
  have HC := Aside0.mk hc
  have HM := Aside0.mk hm
  have HBS := Aside0.mk hbs
  have HRS := Aside0.mk hrs
  have HBL := Aside0.mk hbl
  clear hr hc hm hbs hrs hbl
  go_enter Try.func3, Try.ntmps3
  go_wp2_with (first
    | (go_at_call 8; refine (lives_calls _).mono ?_; rintro e w1 ⟨rfl, hb⟩; have B1 := Aside0.mk hb; clear hb)
    | (go_at_call 9; refine (early_calls _ A0 l.length c0 HC.out m HM.out).mono ?_; rintro e w2 ⟨rfl, hb⟩; have B2 := Aside0.mk (B1.out.trans (hb.mono B1.out.size)); clear hb)
    | (go_at_call 10; refine (Runs_as m (Kd.C_below CT.out B2.out) TL.out (by omega) edge).mono ?_; rintro e w3 ⟨v3, rfl, hR, hb⟩; rw [HBS.out, HRS.out] at hR; obtain ⟨A3, c3, e3, hc3, hC3⟩ := Kd.R_reads hR; subst e3; have C3 := Aside0.mk hC3; have B3 := Aside0.mk (B2.out.trans (hb.mono B2.out.size)); clear hR hb hc3 hC3)
    | ((with_reducible refine gate_dst (N := 20) rfl ?_); refine Kd.R_make Kd.bool _ 4 rfl (N := 20) rfl 28 _ _ rfl m rfl rfl Try.underlying28 (.bool false) 1 info_B rfl (by decide) (by omega) false (ok := fun _ => True) (okp := fun _ => True) rfl (fun _ hk => hk) trivial (by omega) (by omega) (Below.refl _ _) (Nat.le_refl _) ?_; intro v4 w4 hR hb hg hnw; have R4 := Aside0.mk hR; have C4 := Aside0.mk (Kd.C_below C3.out hb); have B43 := Aside0.mk hb; have B4 := Aside0.mk (B3.out.trans (hb.mono B3.out.size)); clear hR hb hg hnw))
  rcases Nat.eq_zero_or_pos m with hm0 | hm0
  · have hr0 : rs.length = 0 := by omega
    have gr : decide ((0 : Int) < rs.length) = false := decide_eq_false (by omega)
    have gm : decide ((0 : Int) < m) = false := decide_eq_false (by omega)
    go_loopw [7, 8, 9] (fun en x kx wr => x = .int .i64 (0 : Int) ∧ wr = w4) (fun _ x _ _ => 0)
    case atStart => exact ⟨rfl, rfl⟩
    case round =>
      obtain ⟨rfl, rfl⟩ := hrel
      go_wp2
      go_loopw [10] (fun xk wk => xk = .int .i64 (0 : Int) ∧ wk = wr) (fun _ _ => 0)
      case atStart => exact ⟨rfl, rfl⟩
      case round =>
        obtain ⟨rfl, rfl⟩ := hrel
        go_wp2
        (try simp only [Exit.noGoto])
        go_ret
        exact ⟨rfl, B4.out⟩
  · obtain ⟨g, cap, ev, hg⟩ := Kd.R_form R4.out (by rw [List.length_replicate]; exact hm0)
    have MK4 := Aside0.mk (show Marks w4 w3.heap.size g cap (marksOf [] m) from by
      rw [marksOf_nil]
      have h_ := R4.out
      rw [ev] at h_
      exact Marks.of_R h_)
    rw [List.length_replicate] at ev
    subst ev
    have HB4 := Aside0.mk (show Below w3.heap.size w3 w4 from B43.out)
    clear R4 hg
    go_loopw [7, 8, 9] (fun en x kx wr => ∃ (i : Nat) (e : Int), i ≤ rs.length ∧ x = .int .i64 (i : Int) ∧ en = .int .i64 e ∧ (-1 ≤ e ∧ e ≤ m) ∧ (∀ p, rs[i]? = some p → e < p.1) ∧ Marks wr w3.heap.size g cap (marksOf (rs.take i) m) ∧ Below w3.heap.size w3 wr) (fun _ x _ _ => rs.length - (intOf x).toNat)
    case atStart => exact ⟨0, -1, Nat.zero_le _, rfl, rfl, ⟨by omega, by omega⟩, fun p hp => by have h_ := RW.out.a p (List.mem_of_getElem? hp); omega, MK4.out, HB4.out⟩
    case round =>
      obtain ⟨i, e, hi, rfl, rfl, he, hE, hM, hb⟩ := hrel
      have MK := Aside0.mk hM
      have HB := Aside0.mk hb
      clear hM hb
      by_cases hlt : i < rs.length
      · obtain ⟨ad, p, hA, hp, x0, x1⟩ := pair_at C3.out i hlt
        have X0 := Aside0.mk x0
        have X1 := Aside0.mk (show w3.cell? { block := (ad.add (i * 2)).block, off := (ad.add (i * 2)).off + 1 } = _ from x1)
        have hpa := RW.out.a p (List.mem_of_getElem? hp)
        have hep := hE p hp
        obtain ⟨s, n⟩ := p
        simp only at hpa hep X0 X1
        have HP := Aside0.mk hp
        have hbl := HBL.out
        have g1 : decide (s ≤ e) = false := decide_eq_false (by omega)
        have g2 : decide (n < 1) = false := decide_eq_false (by omega)
        have g0 : IntKind.i64.wrap (s + n) = s + n := IntWalk.i64_in _ (by omega)
        have g3 : decide ((m : Int) < s + n) = false := decide_eq_false (by omega)
        subst hA
        clear hp hE x0 x1
        go_wp2
        refine wp_region_text (fun W => Below w3.heap.size w3 W) (fun i => ([] : List Nat).contains i) (by kernel_rfl) (by kernel_rfl) (HB.out.trans ((Below.refl w3.heap.size _).drew)) ?_
        have AI := Aside0.mk (HB.out.trans ((Below.refl w3.heap.size wr).drew))
        have MD := Aside0.mk (Marks.kept MK.out (w' := wr.drew) rfl)
        generalize wr.drew = wd at AI MD ⊢
        repeat (first
          | (((first | refine S_off (wanted_no (b := true) rfl rfl (by rfl)) AI.out ?_ | refine S_off (wanted_no (b := false) rfl rfl (by rfl)) AI.out ?_ | refine S_off (wanted_undef rfl rfl (by rfl)) AI.out ?_)); go_frame)
          | ((apply S_val rfl; (first | exact wanted_none rfl | exact wanted_yes rfl rfl (by kernel_rfl)); (intro W hW R hR; have z0 := cell_b hW X0.out; have z1 := cell_b hW X1.out; go_simp; exact hR)); go_frame))
        apply S_nil
        go_wp2
        refine wp_region_text (fun W => Below w3.heap.size w3 W) (fun i => ([] : List Nat).contains i) (by kernel_rfl) (by kernel_rfl) (AI.out.trans ((Below.refl w3.heap.size _).drew)) ?_
        have AI2 := Aside0.mk (AI.out.trans ((Below.refl w3.heap.size wd).drew))
        have MD2 := Aside0.mk (Marks.kept MD.out (w' := wd.drew) rfl)
        generalize wd.drew = we at AI2 MD2 ⊢
        repeat (first
          | ((apply S_val rfl; (first | exact wanted_none rfl | exact wanted_yes rfl rfl (by kernel_rfl)); (intro W hW R hR; have z0 := cell_b hW X0.out; have z1 := cell_b hW X1.out; go_simp; exact hR)); go_frame))
        apply S_nil
        have z0 := cell_b AI2.out X0.out
        go_wp2
        obtain ⟨sn, hsn⟩ : ∃ sn : Nat, s = (sn : Int) := ⟨s.toNat, by omega⟩
        subst hsn
        go_loopw [9] (fun xk wk => ∃ k : Nat, sn ≤ k ∧ (k : Int) ≤ sn + n ∧ xk = .int .i64 (k : Int) ∧ Marks wk w3.heap.size g cap (marksOf (rs.take i ++ [((sn : Int), (k : Int) - sn)]) m) ∧ Below w3.heap.size w3 wk) (fun xk _ => (sn + n - intOf xk).toNat)
        case atStart => exact ⟨sn, Nat.le_refl _, by omega, rfl, by rw [marksOf_none]; exact MD2.out, AI2.out⟩
        case round =>
          obtain ⟨k, hk0, hk1, rfl, hM, hb⟩ := hrel
          have MK := Aside0.mk hM
          have HB := Aside0.mk hb
          clear hM hb
          by_cases hlk : (k : Int) < sn + n
          · have gk : decide ((k : Int) < sn + n) = true := decide_eq_true hlk
            have hkm : k < m := by omega
            obtain ⟨hc, hf⟩ := Marks.at MK.out k (by rw [marksOf_len]; exact hkm)
            obtain ⟨hM, hb0, hb1⟩ := Marks.set MK.out (i := k) (by rw [marksOf_len]; exact hkm) true
            rw [marksOf_step _ _ _ _ (by omega) hkm] at hM
            have MN := Aside0.mk hM
            have BN := Aside0.mk (HB.out.setCell (p := ⟨g, k, none⟩) hb0 (.bool true))
            clear hM hb0 hb1
            go_wp2
            go_roundw
            case rel => exact ⟨k + 1, by omega, by omega, by go_num, MN.out, BN.out⟩
            case measure =>
              simp [intOf]
              go_num
          · have gk : decide ((k : Int) < sn + n) = false := decide_eq_false hlk
            go_wp2
            have hke : (k : Int) = sn + n := by omega
            have MF := Aside0.mk (show Marks wr w3.heap.size g cap (marksOf (rs.take (i + 1)) m) from by
              have h_ := MK.out
              rw [List.take_add_one, HP.out]
              rw [show ((sn : Int), (k : Int) - sn) = ((sn : Int), n) by rw [hke]; congr 1; omega] at h_
              exact h_)
            have hnext : ∀ q : Int × Int, rs[i + 1]? = some q → (sn : Int) + n < q.1 := by
              intro q hq
              have h_ := RW.out.b
              rw [List.pairwise_iff_getElem] at h_
              obtain ⟨l1, e1⟩ := List.getElem?_eq_some_iff.1 HP.out
              obtain ⟨l2, e2⟩ := List.getElem?_eq_some_iff.1 hq
              have h2 := h_ i (i + 1) l1 l2 (by omega)
              rw [e1, e2] at h2
              exact h2
            refine ⟨⟨i + 1, sn + n, hlt, by go_num, rfl, ⟨by omega, by omega⟩, hnext, MF.out, HB.out⟩, ?_⟩
            show rs.length - ((i : Int) + 1).toNat < rs.length - (i : Int).toNat
            omega
      · have gi : decide ((i : Int) < rs.length) = false := decide_eq_false (by omega)
        have hie : i = rs.length := by omega
        subst hie
        rw [List.take_length] at MK
        go_wp2
        go_loopw [10] (fun xk wk => ∃ k : Nat, k ≤ m ∧ xk = .int .i64 (k : Int) ∧ Marks wk w3.heap.size g cap (marksOf rs m) ∧ Below w3.heap.size w3 wk) (fun xk _ => m - (intOf xk).toNat)
        case atStart => exact ⟨0, Nat.zero_le _, rfl, MK.out, HB.out⟩
        case round =>
          obtain ⟨k, hk, rfl, hM, hb⟩ := hrel
          clear MK HB
          have MK := Aside0.mk hM
          have HB := Aside0.mk hb
          clear hM hb
          by_cases hlk : k < m
          · obtain ⟨hc, hf⟩ := Marks.at MK.out k (by rw [marksOf_len]; exact hlk)
            obtain ⟨ad, x, hA, hx, hcell⟩ := flo_at CT.out k hlk
            subst hA
            have hbx := bits_at (edge := edge) hx
            rw [HBS.out] at hbx
            have hany : inAny rs k = decide (0 < cmpF x edge) := by
              rw [← hbx, Bool.eq_iff_iff, RW.out.c k (by have h_ := HBL.out; omega)]
              simp [inAny]
            rw [marksOf_at _ _ _ hlk, hany] at hc
            obtain ⟨cc, hcc⟩ : ∃ cc, cmpF x edge = cc := ⟨_, rfl⟩
            rw [hcc] at hc
            obtain ⟨bb, hbb⟩ : ∃ bb, decide (0 < cc) = bb := ⟨_, rfl⟩
            rw [hbb] at hc
            have CC := Aside0.mk hcc
            have X0 := Aside0.mk hc
            have X1 := Aside0.mk (cell_b ((B3.out.trans (HB.out.mono B3.out.size))) hcell)
            clear hx hbx hany hc hf hcell hcc
            go_wp2
            refine wp_region_text (fun W => Below wr.heap.size wr W) (fun i => ([9] : List Nat).contains i) (by kernel_rfl) (by kernel_rfl) ((Below.refl wr.heap.size _).drew) ?_
            have HI := Aside0.mk ((Below.refl wr.heap.size wr).drew)
            have MD := Aside0.mk (Marks.kept MK.out (w' := wr.drew) rfl)
            have HD := Aside0.mk (HB.out.trans ((Below.refl w3.heap.size wr).drew))
            generalize wr.drew = wd at HI MD HD ⊢
            repeat (first
              | ((apply S_val rfl; (first | exact wanted_none rfl | exact wanted_yes rfl rfl (by kernel_rfl)); (intro W hW R hR; have z0 := cell_b hW X0.out; have z1 := cell_b hW X1.out; go_simp; exact hR)); go_frame)
              | ((refine S_call rfl ?_ ?_ (gCmp_as _ x edge cc CC.out) ?_; (first | exact wanted_none rfl | exact wanted_yes rfl rfl (by kernel_rfl)); (focus (first | (go_simp; done) | (go_simp; rfl)))); rintro e wn ⟨rfl, rfl⟩; refine ⟨_, rfl, HI.out, ?_⟩; go_frame))
            apply S_nil
            clear HB
            go_wp2
            go_roundw
            case rel => exact ⟨k + 1, hlk, by go_num, MD.out, HD.out⟩
            case measure =>
              simp [intOf]
              go_num
          · have gk : decide ((k : Int) < m) = false := decide_eq_false (by omega)
            go_wp2
            (try simp only [Exit.noGoto])
            go_ret
            exact ⟨rfl, B3.out.trans (HB.out.mono B3.out.size)⟩
end Go.Proofs.Ytngncegokmppiaa.Flo
