/- A memory's calls: Image. -/
import Derived.Handy
import Derived.WalkSpells
import Derived.Test.YtifdinoioddnlaaMemF
namespace Go.Proofs.Ytifdinoioddnlaa.Mem
open Go Go.RowKit Go.Proofs.Ytifdinoioddnlaa.ML Go.Proofs.YtifdinoioddnlaaW.PrintWords Go.Proofs.YtifdinoioddnlaaW.PrintLast Go.Proofs.YtifdinoioddnlaaW.PrintMore Go.Proofs.Ytifdinoioddnlaa.Print
set_option linter.unusedVariables false
set_option linter.unusedSimpArgs false
def MS.image (S : MS) : List Int := S.ws.map Cell.now
def MS.imgTo (S : MS) (left : Int → Bool) : List Value := S.ws.mapIdx fun j c => .int .u64 (if left (j : Int) then c.sure else c.now)
theorem MS.imgTo_get (S : MS) (left : Int → Bool) (j : Nat) : (S.imgTo left)[j]? = S.ws[j]?.map fun c => .int .u64 (if left (j : Int) then c.sure else c.now) := by
  simp [MS.imgTo, List.getElem?_mapIdx]
theorem MS.imgTo_start (S : MS) (left : Int → Bool) (h : ∀ i, left i = (get S.looseM i).isSome) : S.imgTo left = S.sures := by
  refine List.ext_getElem? fun j => ?_
  rw [S.imgTo_get, MS.sures, List.getElem?_map]
  rcases Nat.lt_or_ge j S.ws.length with hl | hl
  · have hj := S.get_loose (j : Int) (by omega) (by omega)
    rw [List.getElem?_eq_getElem hl]
    have e : S.at (j : Int) = S.ws[j] := by unfold MS.at; rw [List.getD_eq_getElem?_getD]; simp [hl]
    rw [e] at hj
    simp only [Option.map_some, h, hj, Cell.now]
    cases hc : S.ws[j].loose <;> simp
  · rw [List.getElem?_eq_none hl]; rfl
theorem MS.imgTo_end (S : MS) (left : Int → Bool) (h : ∀ i, left i = false) : S.imgTo left = S.image.map (Value.int .u64) := by
  refine List.ext_getElem? fun j => ?_
  rw [S.imgTo_get, MS.image, List.map_map, List.getElem?_map]
  simp [h, Function.comp_def]
theorem MS.imgTo_step (S : MS) (left left' : Int → Bool) {k v : Int} (h0 : 0 ≤ k) (h1 : k < S.ws.length) (hv : (S.at k).loose = some v) (hl' : ∀ i, left' i = (left i && !(i == k))) : (S.imgTo left).set k.toNat (.int .u64 v) = S.imgTo left' := by
  refine List.ext_getElem? fun j => ?_
  rw [List.getElem?_set, S.imgTo_get, S.imgTo_get, hl']
  by_cases hj : k.toNat = j
  · have hlt : j < S.ws.length := by omega
    have e : S.at k = S.ws[j] := by unfold MS.at; rw [List.getD_eq_getElem?_getD, hj]; simp [hlt]
    rw [if_pos hj, if_pos (by simp [MS.imgTo]; omega), List.getElem?_eq_getElem hlt]
    rw [e] at hv
    have : ((j : Int) == k) = true := by simp; omega
    simp [this, Cell.now, hv]
  · rw [if_neg hj]
    have : ((j : Int) == k) = false := by simp; omega
    simp [this]
theorem MS.image_len (S : MS) : S.image.length = S.ws.length := by simp [MS.image]
set_option maxHeartbeats 2000000 in
theorem Image_calls {w : World} {f : Fp} {S : MS} (h : IsMem w f S) : Calls Try.prog 14 #[ptr f] w fun e w' => ∃ v : Value, e = .returned v ∧ Kd.R (Kd.int .u64) 31 w' w.heap.size (fun _ => True) v S.image ∧ Below w.heap.size w w' := by
  obtain ⟨A, cap, HF, hrow⟩ := h.facts
  have c0 := HF.c0
  have hlen := h.ok.len
  have hcl := slices_Clone_uint64_uint64.calls A cap (S.ws.map Cell.sure) (S.ws.map Cell.sure) w (by rw [List.length_map]; exact hrow.readC) (by rw [List.length_map]; exact hrow.1) (by unfold slices_Clone_uint64_uint64.f; rw [if_pos (by simp; omega)])
  rw [List.length_map] at hcl
  have HC := Aside0.mk hcl
  have H := Aside0.mk h
  clear HF hrow hcl hlen h
  go_enter Try.func14, Try.ntmps14
  go_wp2_with (first
    | (go_at_call 27; refine HC.out.mono ?_; rintro e w1 ⟨v0, rfl, hR, hb⟩; have hm := H.out.below hb; obtain ⟨A1, cap1, hv⟩ := Kd.R_slice hR; rw [List.length_map] at hv; subst hv; obtain ⟨A2, cap2, HF, _⟩ := hm.facts; have c1 := HF.c1; have HM := Aside0.mk hm; have HR := Aside0.mk hR; have HB := Aside0.mk hb; clear hm hR hb HF)
    | (at_range; refine wpList_range_own _ rfl _ 55 rfl 3 31 mt.keyed mt.ht _ f.bl _ _ rfl HM.out.loose ?_; intro w2 hrg0 hg0 hs0))
  obtain ⟨r, hrr⟩ : ∃ r, w1.heap.size = r := ⟨_, rfl⟩
  have hrow := row_of_R HR.out
  rw [List.length_map, List.map_map] at hrow
  have hl : ∀ b ∈ f.list, b < w.heap.size := H.out.lts
  have hbr : w.heap.size ≤ r := by rw [← hrr]; exact HB.out.size
  have hown : ∀ g, (Value.slice A1 S.ws.length cap1).ownBlock = some g → g < r := by rw [← hrr]; exact fun g hg => own_lt hrow g hg
  rw [hrr] at hrg0 ⊢
  go_frame
  have RG := Aside0.mk hrg0
  have G0 := Aside0.mk hg0
  have HL := Aside0.mk hl
  have HRow := Aside0.mk hrow
  have HBr := Aside0.mk hbr
  have HO := Aside0.mk hown
  clear hrg0 hg0 hs0 hl hrow hbr hown hrr c1 c0
  go_loopw [] (fun wr => ∃ (left : Lit → Bool) (cnt : Nat), IsRange wr f.bl r S.looseM.length S.looseM left cnt ∧ wr.ownsRow w.heap.size 31 1 (.slice A1 S.ws.length cap1) S.ws.length (S.imgTo fun j => left (.int .i64 j)) ∧ Below w.heap.size w wr) (fun wr => wr.rangeLeft f.bl r)
  case atStart =>
    refine ⟨_, _, RG.out, ?_, HB.out.grown G0.out HB.out.size (fun k hk => by cases hk)⟩
    rw [MS.imgTo_start _ _ fun i => D_has ek S.looseM i]
    have : (S.ws.map ((Value.int .u64) ∘ Cell.sure)) = S.sures := rfl
    rw [this] at HRow
    exact own_move HRow.out fun k hk => G0.out.block k (own_lt HRow.out k hk) (by simp)
  case round =>
    obtain ⟨left, cnt, hrg, hrow, hbw⟩ := hrel
    have HG := Aside0.mk hrg
    have HW := Aside0.mk hrow
    have HB2 := Aside0.mk hbw
    clear hrg hrow hbw
    go_wp2_with (first
      | (at_next; refine wpList_next_ranges_ii _ rfl _ rfl 3 31 .i64 .u64 mt.keyed mt.hk Try.underlying31 f.bl r _ _ _ _ rfl HG.out ?_ ?_))
    · intro hc0 hl0
      have HE := Aside0.mk hl0
      clear hc0 hl0
      go_wp2
      go_ret
      have hrow := HW.out
      rw [MS.imgTo_end S (fun j => left (.int .i64 j)) fun i => HE.out _] at hrow
      refine ⟨_, rfl, R_of_row ?_, HB2.out⟩
      rw [MS.image_len]
      exact hrow
    · intro x c w2 cnt2 hwx hwc hlx hat hrg2 hlt hg2 hs2 hen
      have hget := range_get hat
      have hin : 0 ≤ x ∧ x < S.ws.length := by
        by_cases hx : 0 ≤ x ∧ x < S.ws.length
        · exact hx
        · rw [MS.get_loose_out _ _ (by omega)] at hget; cases hget
      rw [MS.get_loose _ _ hin.1 hin.2] at hget
      have hr2 := own_move HW.out (w1 := w2) fun k hk => hg2.block k (own_lt HW.out k hk) (by have := HO.out k hk; simp; omega)
      have hb2 : Below w.heap.size w w2 := HB2.out.grown hg2 HB2.out.size (fun k hk => by cases hk; exact HBr.out)
      obtain ⟨g, hA, hcell, hfz⟩ : ∃ g, A1 = some ⟨g, 0, none⟩ ∧ (∃ u, w2.cell? ⟨g, x.toNat, none⟩ = some u) ∧ w2.frozen? ⟨g, x.toNat, none⟩ = false := by
        rcases hr2.2 with ⟨_, h0⟩ | ⟨g, cap', cur, hv, hbg, hh, h3, h4, h5, h6⟩
        · omega
        · injection hv with hA _ hc
          subst hc
          exact ⟨g, hA, ⟨cur[x.toNat]'(by omega), cell_of hh (by rw [Array.getElem?_eq_getElem])⟩, frozen_of hh⟩
      subst hA
      obtain ⟨u, hcell⟩ := hcell
      have hgr : g < r := HO.out g rfl
      have hgw : w.heap.size ≤ g := by
        rcases hr2.2 with ⟨h, _⟩ | ⟨g', cap', cur, hv, hbg, _⟩
        · cases h
        · injection hv with hA _ hc
          injection hA with hA
          injection hA with hA
          omega
      have hr3 := own_set hr2 (i := x.toNat) (by omega) (.int .u64 c)
      have hst := MS.imgTo_step S (fun j => left (.int .i64 j)) (fun j => (left (.int .i64 j) && !(Lit.int .i64 j).sameKey (.int .i64 x))) hin.1 hin.2 hget (fun i => range_key rfl i)
      rw [hst] at hr3
      have t3 := Turn.setCell w2 ⟨g, x.toNat, none⟩ (.int .u64 c)
      have hrg3 : IsRange (w2.setCell ⟨g, x.toNat, none⟩ (.int .u64 c)) f.bl r S.looseM.length S.looseM _ cnt2 := World.ranges.kept hrg2 t3.grown (by have := HL.out f.bl (by simp [Fp.list]); simp; omega) (by simp; omega)
      have hb3 : Below w.heap.size w (w2.setCell ⟨g, x.toNat, none⟩ (.int .u64 c)) := hb2.setCell hgw _
      have R3 := Aside0.mk hrg3
      have W3 := Aside0.mk hr3
      have B3 := Aside0.mk hb3
      have HT := Aside0.mk hlt
      have hx0 : 0 ≤ x := hin.1
      have hx1 : x < S.ws.length := hin.2
      clear hget hin hr2 hb2 hr3 hst t3 hrg3 hb3 hlt hlx hat hrg2 hg2 hs2 hgr hgw hwx hwc
      go_wp2
      go_roundw
      case rel => exact ⟨_, cnt2, R3.out, W3.out, B3.out⟩
      case measure => rw [R3.out.left_eq, HG.out.left_eq]; exact HT.out
set_option maxHeartbeats 400000 in
theorem Image_nil (w : World) : Calls Try.prog 14 #[.pointer none] w fun e w' => e = .returned (.slice none 0 0) ∧ w = w' := by
  go_enter Try.func14, Try.ntmps14
  go_wp2
  go_ret
  exact ⟨rfl, rfl⟩
end Go.Proofs.Ytifdinoioddnlaa.Mem
