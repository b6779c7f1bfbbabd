/- Sets of files: holds, same. (Printed by wip/tools/mk15h.py.) -/
import Derived.Test.YtoakfmdfajpejaaSetG
namespace Go.Proofs.Ytoakfmdfajpejaa.Sets
open Go Go.Maps Go.RowKit Go.Proofs.Ytoakfmdfajpejaa.ML Go.Proofs.Ytoakfmdfajpejaa.Reg Go.Proofs.Ytoakfmdfajpejaa.Print Go.Proofs.YtoakfmdfajpejaaW.PrintWords Go.Proofs.YtoakfmdfajpejaaW.PrintLast Go.Proofs.YtoakfmdfajpejaaW.PrintMore
set_option linter.unusedVariables false
set_option linter.unusedSimpArgs false
section steps
variable {P : Program} {ops : Array Oper} {Inv : World → Prop} {e : TypeId} {α : Type} {x : EK P e α} {k t : TypeId} {b : Nat} {m : List (Int × α)}
theorem S_skip {ev : Nat → Bool} {Q : Act → World → Prop} {i : Nat} {r : List Oper} {a : Act} {w w' : World} {o : Oper} (he : ev i = true) (hw : Region.wanted o (yielded ops a.tmps) = true) (hx : (execOp a.eval o).run P w = .ok .skip w') (hi : Inv w')
    (h : wpS P ops Inv ev Q r (i + 1) (a.put o.dst undef) w') : wpS P ops Inv ev Q (o :: r) i a w := by
  unfold wpS
  rw [if_pos he]
  unfold opE
  rw [if_pos hw]
  unfold Oper.wp
  rw [hx]
  exact ⟨hi, hi, h⟩
theorem S_put {ev : Nat → Bool} {Q : Act → World → Prop} {i : Nat} {r : List Oper} {a : Act} {w : World} {o : Oper} (T : MT P t k e) (he : ev i = true) (hw : Region.wanted o (yielded ops a.tmps) = true) (mo xo vo : Operand) (hop : o.op = Op.mapUpdate t mo xo vo) (hm : a.eval mo = .map (some b)) (h : IsM x k w b m) (hn : m.length < 4611686018427387904) (key : Int) (v : α) (hx : a.eval xo = .int .i64 key) (hv : a.eval vo = x.val v) (hkey : (Lit.int .i64 key).wf = true) (hok : x.ok v)
    (hI : ∀ w', w.mapTurned w' b → Inv w') (hK : ∀ w', IsM x k w' b (put m key v) → w.mapTurned w' b → wpS P ops Inv ev Q r (i + 1) (a.put o.dst undef) w') : wpS P ops Inv ev Q (o :: r) i a w := by
  obtain ⟨w', hrun, r1, r2⟩ := World.ownsMap.store h T.keyed T.ht (show m.length < maxLen by unfold maxLen; omega) (keyOf_int_mk T.hk hkey) (x.plain _ hok)
  refine S_skip he hw ?_ (hI w' r2) (hK w' (IsM.of (by rw [← D_put]; exact r1)) r2)
  simp [execOp, hop, hm, hx, hv, hrun, Result.andThen]
end steps
theorem hd_at {w : World} {A : Option Addr} {ad : Addr} {l : List Hd} {j : Nat} (h : Kd.C k50 w A l.length l) (hj : j < l.length) (hA : A = some ad) : w.cell? (ad.add (j * 2)) = some (.int .i64 l[j].f0) ∧ w.cell? ⟨(ad.add (j * 2)).block, (ad.add (j * 2)).off + 1, none⟩ = some (.int .i64 l[j].f1) := by
  obtain ⟨ad', hA', x0, x1⟩ := at_T50 h (j : Int) (by omega) (by omega)
  rw [hA] at hA'
  obtain rfl := Option.some.inj hA'
  rw [rd_hd l j hj, Int.toNat_natCast] at x0 x1
  exact ⟨x0, x1⟩
theorem hd_some {w : World} {A : Option Addr} {l : List Hd} {j : Nat} (h : Kd.C k50 w A l.length l) (hj : j < l.length) : ∃ ad, A = some ad := by
  obtain ⟨ad', hA', x0, x1⟩ := at_T50 h (j : Int) (by omega) (by omega)
  exact ⟨ad', hA'⟩
theorem hd_take {l : List Hd} {j : Nat} (hj : j < l.length) : l.take (j + 1) = l.take j ++ [l[j]] := by rw [List.take_add_one, List.getElem?_eq_getElem hj]; rfl
set_option maxHeartbeats 2000000 in
theorem holds_calls {w : World} {A : Option Addr} {c : Nat} {l : List Hd} (hr : Kd.C k50 w A l.length l) (hc : l.length ≤ c) (hn : l.length ≤ 60) (hp : ∀ y ∈ l, y.f1 > 0) (hi : ∀ y ∈ l, okn y.f0 ∧ okn y.f1) {m : List (Int × Int)} (hm : holdsL l = m) :
    Calls Try.prog 14 #[.slice A l.length c] w fun e w' => ∃ b, e = .returned (.map (some b)) ∧ w.heap.size ≤ b ∧ IsM ekI 3 w' b m ∧ Below w.heap.size w w' := by
  have hmm := @run_makeMap Try.prog
  have HM0 := Aside0.mk (IsM.made (x := ekI) (k := 3) w)
  have HB0 := Aside0.mk ((Below.refl w.heap.size w).alloc (Nat.le_refl _) (.map #[] 0))
  have HR := Aside0.mk hr
  have HI0 := Aside0.mk hi
  have HP := Aside0.mk hp
  have HME := Aside0.mk hm
  clear hr hi hm hp
  go_enter Try.func14, Try.ntmps14
  go_wp2
  go_loopw [4] (fun x wr => ∃ j : Nat, j ≤ l.length ∧ x = .int .i64 (j : Int) ∧ IsM ekI 3 wr w.heap.size (holdsL (l.take j)) ∧ Below w.heap.size w wr) (fun x _ => l.length - (intOf x).toNat)
  case atStart => exact ⟨0, by omega, rfl, HM0.out, HB0.out⟩
  case round =>
    obtain ⟨j, hj, rfl, hm1, hb⟩ := hrel
    have HM := Aside0.mk hm1
    have HB := Aside0.mk hb
    have HN := Aside0.mk (show (holdsL (l.take j)).length ≤ 60 by have := holdsL_len (l.take j); rw [List.length_take] at this; omega)
    clear hm1 hb
    by_cases hlt : j < l.length
    · obtain ⟨ad, hA⟩ := hd_some HR.out hlt
      have hpj := HP.out _ (List.getElem_mem hlt)
      obtain ⟨ky, hky⟩ : ∃ ky, l[j].f0 = ky := ⟨_, rfl⟩
      obtain ⟨vl, hvl⟩ : ∃ vl, l[j].f1 = vl := ⟨_, rfl⟩
      have HK0 := Aside0.mk (hky ▸ (HI0.out _ (List.getElem_mem hlt)).1)
      have HK1 := Aside0.mk (hvl ▸ (HI0.out _ (List.getElem_mem hlt)).2)
      rw [hvl] at hpj
      have HN1 := Aside0.mk (show holdsL (l.take (j + 1)) = put (holdsL (l.take j)) ky vl by rw [hd_take hlt, holdsL_snoc, hvl, hky, if_pos hpj])
      subst hA
      have x0 := (hd_at (Kd.C_below HR.out HB.out) hlt rfl).1
      have x1 := (hd_at (Kd.C_below HR.out HB.out) hlt rfl).2
      rw [hky] at x0
      rw [hvl] at x1
      have hpd : decide (vl > 0) = true := decide_eq_true hpj
      go_wp2
      clear x0 x1
      have BB := Aside0.mk (Nat.le_refl w.heap.size)
      have HM1 := Aside0.mk (show IsM ekI 3 wr.drew w.heap.size (holdsL (l.take j)) from HM.out.block rfl)
      refine wp_region_text (fun W => Below w.heap.size w W) (fun i => [11].contains i) (by kernel_rfl) (by kernel_rfl) HB.out.drew ?_
      have HI := Aside0.mk HB.out.drew
      generalize wr.drew = wd at HI HM1 ⊢
      repeat (first
        | ((refine S_put (x := ekI) mtHolds rfl ?_ _ _ _ rfl rfl HM1.out (by have := HN.out; omega) ky vl rfl rfl HK0.out HK1.out (fun w' ht => HI.out.grown (turned_of ht) HI.out.size (fun x hx => by cases hx; exact BB.out)) ?_; (first | exact wanted_none rfl | exact wanted_yes rfl rfl (by kernel_rfl))); intro w3 hm2 ht2; have M3 := Aside0.mk hm2; have B3 := Aside0.mk (HI.out.grown (turned_of ht2) HI.out.size (fun x hx => by cases hx; exact BB.out)); clear hm2 ht2; go_frame)
        | ((apply S_val rfl; (first | exact wanted_none rfl | exact wanted_yes rfl rfl (by kernel_rfl)); (intro W hW R hR; go_simp; exact hR)); go_frame)
        | ((apply S_val rfl; (first | exact wanted_none rfl | exact wanted_yes rfl rfl (by kernel_rfl)); (intro W hW R hR; have x0 := (hd_at (Kd.C_below HR.out hW) hlt rfl).1; have x1 := (hd_at (Kd.C_below HR.out hW) hlt rfl).2; rw [hky] at x0; rw [hvl] at x1; go_simp; exact hR)); go_frame))
      apply S_nil
      go_wp2
      go_roundw
      case rel => exact ⟨j + 1, by omega, by go_num, by rw [HN1.out]; exact M3.out, B3.out⟩
      case measure => simp [intOf]; omega
    · have hj' : j = l.length := by omega
      have hm := HM.out
      rw [hj', List.take_length, HME.out] at hm
      have HM' := Aside0.mk hm
      clear hm
      go_wp2
      go_ret
      exact ⟨_, rfl, Nat.le_refl _, HM'.out, HB.out⟩
set_option maxHeartbeats 2000000 in
theorem same_calls {w : World} {s : Nat} {m : List (Int × Int)} (hs : IsM ekI 3 w s m) {A : Option Addr} {c : Nat} {l : List Hd} (hr : Kd.C k50 w A l.length l) (hc : l.length ≤ c) (hn : l.length ≤ 1000) (hi : ∀ y ∈ l, okn y.f0) {B : Option Addr} {d : Nat} {a : List Int} (hr2 : Kd.C (Kd.int .i64) w B a.length a) (hn2 : a.length ≤ 1000) (hi2 : ∀ k ∈ a, okn k) (hg : ∀ k, (get m k).getD 0 = ofL l k) :
    Calls Try.prog 18 #[.map (some s), .slice A l.length c, .slice B a.length d] w fun e w' => e = .returned (.bool true) ∧ Below w.heap.size w w' := by
  have HS := Aside0.mk hs
  have SL := Aside0.mk hs.lt
  have HR := Aside0.mk hr
  have HC := Aside0.mk hc
  have HI0 := Aside0.mk hi
  have HR2 := Aside0.mk hr2
  have HI2 := Aside0.mk hi2
  have HG := Aside0.mk hg
  clear hs hr hi hr2 hi2 hg hc
  go_enter Try.func18, Try.ntmps18
  go_wp2
  go_loopw [7] (fun x wr => ∃ j : Nat, j ≤ l.length ∧ x = .int .i64 (j : Int) ∧ Below w.heap.size w wr) (fun x _ => l.length - (intOf x).toNat)
  case atStart => exact ⟨0, by omega, rfl, Below.refl _ _⟩
  case round =>
    obtain ⟨j, hj, rfl, hb⟩ := hrel
    have HB := Aside0.mk hb
    clear hb
    by_cases hlt : j < l.length
    · obtain ⟨ad, hA⟩ := hd_some HR.out hlt
      obtain ⟨ky, hky⟩ : ∃ ky, l[j].f0 = ky := ⟨_, rfl⟩
      have HK := Aside0.mk (hky ▸ HI0.out _ (List.getElem_mem hlt))
      subst hA
      go_wp2
      refine wp_region_text (fun W => Below w.heap.size w W) (fun i => [13].contains i) (by kernel_rfl) (by kernel_rfl) HB.out.drew ?_
      have HI := Aside0.mk HB.out.drew
      generalize wr.drew = wd at HI ⊢
      repeat (first
        | ((refine S_look (x := ekI) mtHolds rfl ?_ _ _ rfl rfl (fun W hW => IsMbelow HS.out SL.out hW) ky rfl HK.out (HG.out ky) ?_; (first | exact wanted_none rfl | exact wanted_yes rfl rfl (by kernel_rfl))); go_frame)
        | ((apply S_val rfl; (first | exact wanted_none rfl | exact wanted_yes rfl rfl (by kernel_rfl)); (intro W hW R hR; go_simp; exact hR)); go_frame)
        | ((apply S_val rfl; (first | exact wanted_none rfl | exact wanted_yes rfl rfl (by kernel_rfl)); (intro W hW R hR; have x0 := (hd_at (Kd.C_below HR.out hW) hlt rfl).1; rw [hky] at x0; go_simp; exact hR)); go_frame)
        | ((refine S_call rfl ?_ ?_ (ROf_as (c := c) (Kd.C_below HR.out HI.out) HC.out (by omega) ky rfl) ?_; (first | exact wanted_none rfl | exact wanted_yes rfl rfl (by kernel_rfl)); (focus (first | (go_simp; done) | (go_simp; rfl)))); rintro e wn ⟨rfl, hb⟩; have n_ := Aside0.mk (HI.out.trans (hb.mono HI.out.size)); clear HI hb; have HI := n_; clear n_; refine ⟨_, rfl, HI.out, ?_⟩; go_frame))
      apply S_nil
      go_wp2
      go_roundw
      case rel => exact ⟨j + 1, by omega, by go_num, HI.out⟩
      case measure => simp [intOf]; omega
    · have hj' : j = l.length := by omega
      rw [hj']
      clear hj' hj hlt
      go_wp2
      go_loopw [8] (fun x wr => ∃ j : Nat, j ≤ a.length ∧ x = .int .i64 (j : Int) ∧ Below w.heap.size w wr) (fun x _ => a.length - (intOf x).toNat)
      case atStart => exact ⟨0, by omega, rfl, HB.out⟩
      case round =>
        clear HB
        obtain ⟨j, hj, rfl, hb⟩ := hrel
        have HB := Aside0.mk hb
        clear hb
        by_cases hlt : j < a.length
        · obtain ⟨ad, ky, hA, hk, hx⟩ := elem_at (Kd.C_below HR2.out HB.out) j hlt
          have HK := Aside0.mk (HI2.out ky (List.mem_of_getElem? hk))
          have hKJ := Aside0.mk hk
          subst hA
          clear hk hx
          go_wp2
          refine wp_region_text (fun W => Below w.heap.size w W) (fun i => [11].contains i) (by kernel_rfl) (by kernel_rfl) HB.out.drew ?_
          have HI := Aside0.mk HB.out.drew
          generalize wr.drew = wd at HI ⊢
          repeat (first
            | ((refine S_look (x := ekI) mtHolds rfl ?_ _ _ rfl rfl (fun W hW => IsMbelow HS.out SL.out hW) ky rfl HK.out (HG.out ky) ?_; (first | exact wanted_none rfl | exact wanted_yes rfl rfl (by kernel_rfl))); go_frame)
            | ((apply S_val rfl; (first | exact wanted_none rfl | exact wanted_yes rfl rfl (by kernel_rfl)); (intro W hW R hR; go_simp; exact hR)); go_frame)
            | ((apply S_val rfl; (first | exact wanted_none rfl | exact wanted_yes rfl rfl (by kernel_rfl)); (intro W hW R hR; have x0 := elem_in (Kd.C_below HR2.out hW) hKJ.out rfl; go_simp; exact hR)); go_frame)
            | ((refine S_call rfl ?_ ?_ (ROf_as (c := c) (Kd.C_below HR.out HI.out) HC.out (by omega) ky rfl) ?_; (first | exact wanted_none rfl | exact wanted_yes rfl rfl (by kernel_rfl)); (focus (first | (go_simp; done) | (go_simp; rfl)))); rintro e wn ⟨rfl, hb⟩; have n_ := Aside0.mk (HI.out.trans (hb.mono HI.out.size)); clear HI hb; have HI := n_; clear n_; refine ⟨_, rfl, HI.out, ?_⟩; go_frame))
          apply S_nil
          go_wp2
          go_roundw
          case rel => exact ⟨j + 1, by omega, by go_num, HI.out⟩
          case measure => simp [intOf]; omega
        · go_wp2
          go_ret
          exact ⟨rfl, HB.out⟩
end Go.Proofs.Ytoakfmdfajpejaa.Sets
