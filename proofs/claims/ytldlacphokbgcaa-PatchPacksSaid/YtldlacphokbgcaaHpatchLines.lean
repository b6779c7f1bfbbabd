/- The lines of a patch: each place's line, one after the other once. -/
import Derived.Test.YtldlacphokbgcaaPrint0
import Derived.Test.YtldlacphokbgcaaPrint2
import Derived.WalkSpells
import Derived.Test.YtldlacphokbgcaaHslicesCompactInt
import Derived.Test.YtldlacphokbgcaaHHands
namespace Go.Proofs.Ytldlacphokbgcaa.Print
open Go.RowKit Go.Proofs.YtldlacphokbgcaaW.PrintWords Go.Proofs.YtldlacphokbgcaaW.PrintLast Go.Proofs.YtldlacphokbgcaaW.PrintMore
set_option linter.unusedVariables false
theorem info_intL : (Try.prog.info? 3).map (fun i => (i.zero, i.size, i.bytes)) = some (some (.int .i64 0), 1, 8) := by kernel_rfl
def linesOf (l0 : List S31) : List Int := l0.map (fun c => wrap64 (Int.tdiv c.f0 8))
theorem linesOf_len (l : List S31) : (linesOf l).length = l.length := by unfold linesOf; simp
theorem linesOf_succ (l : List S31) (m : Nat) (h : m < l.length) : linesOf (l.take (m + 1)) = linesOf (l.take m) ++ [wrap64 (Int.tdiv (rd_T31 l (m : Int)).f0 8)] := by
  unfold linesOf rd_T31
  rw [List.take_add_one, List.getElem?_eq_getElem h, List.map_append, Int.toNat_natCast, List.getD_eq_getElem?_getD, List.getElem?_eq_getElem h]
  rfl
def patch_Lines.f (k : Nat) (l0 : List (S31)) : Option (List Int) := (patch_Right.f k l0).bind fun t => if t = true then (if l0.length ≤ 1000000 then some (Lib.compact (linesOf l0)) else none) else some []
theorem patch_Lines.mono : ∀ a0 k, LeO (patch_Lines.f k a0) (patch_Lines.f (k + 1) a0) := fun a0 k => LeO.bind (patch_Right.mono a0 k) (fun _ => LeO.refl _)
set_option maxHeartbeats 1000000 in
theorem patch_Lines.calls (k : Nat) (A0 : Option Addr) (c0 : Nat) (l0 : List (S31)) (r : List Int) (w : World) (hr0 : Kd.C k31 w A0 l0.length l0) (hc0 : l0.length ≤ c0) (h : patch_Lines.f k l0 = some r) :
    Calls Try.prog 27 #[.slice A0 l0.length c0] w fun e w' => ∃ v0_ : Value, e = .returned (v0_) ∧ Kd.R (Kd.int .i64) 3 w' w.heap.size (fun _ => True) v0_ r ∧ Below w.heap.size w w' := by
  have hu31 := Try.underlying31
  have HR0 := Aside0.mk hr0
  have HC0 := Aside0.mk hc0
  clear hr0 hc0
  obtain ⟨t, hR, h⟩ := Option.bind_eq_some_iff.1 h
  have HR1 := Aside0.mk hR
  clear hR
  cases t with
  | false =>
    obtain rfl := Option.some.inj h
    clear h
    go_enter Try.func27, Try.ntmps27
    go_wp2_with (go_at_call 12; refine (patch_Right.calls k A0 c0 l0 false _ HR0.out HC0.out HR1.out).mono ?_; rintro e w1 ⟨rfl, hb⟩; have HB := Aside0.mk hb; clear hb)
    go_ret
    exact ⟨_, rfl, Kd.R_nil _ _ _ _ _, HB.out⟩
  | true =>
    rw [if_pos rfl] at h
    by_cases hl : l0.length ≤ 1000000
    · rw [if_pos hl] at h
      obtain rfl := Option.some.inj h
      clear h
      go_enter Try.func27, Try.ntmps27
      go_wp2_with (go_at_call 12; refine (patch_Right.calls k A0 c0 l0 true _ HR0.out HC0.out HR1.out).mono ?_; rintro e w1 ⟨rfl, hb⟩; have HB := Aside0.mk hb; clear hb)
      go_loopg [3, 11] l0.length (fun gk v3 v11 wr => ∃ m : Nat, v11 = .int .i64 m ∧ m ≤ l0.length ∧ l0.length - m ≤ gk ∧ Aside0 (Kd.R (Kd.int .i64) 3 wr w.heap.size (fun _ => True) v3 (linesOf (l0.take m))) ∧ Aside0 (Below w.heap.size w wr))
      case atStart => exact ⟨0, rfl, by omega, by omega, ⟨by rw [List.take_zero]; exact Kd.R_nil _ _ _ _ _⟩, HB⟩
      case round =>
        clear HB
        obtain ⟨m, rfl, hm, hgk, HO, HB⟩ := hrel
        by_cases hlt : m < l0.length
        · have hltz : (m : Int) < (l0.length : Int) := by omega
          have HS := Aside0.mk (linesOf_succ l0 m hlt)
          have HL := Aside0.mk (show (linesOf (l0.take m)).length = m by rw [linesOf_len, List.length_take]; omega)
          obtain ⟨ad, e1, hx0, hx1⟩ := at_T31 HR0.out (m : Int) (by omega) hltz
          cases e1
          replace hx0 := (HB.out.cell (World.block_lt_of_cell? w _ hx0)).trans hx0
          replace hx1 := (HB.out.cell (World.block_lt_of_cell? w _ hx1)).trans hx1
          rw [Int.toNat_natCast] at hx0 hx1
          go_wp2_with (first
            | ((with_reducible refine gate_dst (N := 5) rfl ?_); refine box_event ?hg (N := 5) ?hd (cs := #[.int .i64 0, .int .u64 0]) (t := 31) ?hr ?_; (case hd => rfl); (case hg => rfl); (case hr => first | (go_simp; done) | (go_simp; rfl)); intro gb hg w6 hbox hb; have HB2 := Aside0.mk (below_step HB.out hb); have HO2 := Aside0.mk (Kd.R_below HO.out hb); have GE := Aside0.mk (show w.heap.size ≤ gb by rw [hg]; exact below_size HB.out); have HN := Aside0.mk (show some gb ≠ Value.ownBlock u3 by rw [hg]; exact Kd.R_ne_new HO.out 0); have BK := Aside0.mk hbox; clear hg hb HO HB hbox)
            | ((with_reducible refine gate_store (t := 31) (p := 5) rfl ?_); refine store_event (t := 31) (p := 5) (v := .tmp 14) (w1 := w6.setCells gb 0 [.int .i64 (rd_T31 l0 (m : Int)).f0, .int .u64 (rd_T31 l0 (m : Int)).f1]) ?hg ?ho ?hn ?hr ?_; (case ho => rfl); (case hg => rfl); (case hn => rfl); (case hr => exact store_exec rfl rfl rfl (run_store_run (P := Try.prog) (o := 0) 31 (.agg #[.int .i64 (rd_T31 l0 (m : Int)).f0, .int .u64 (rd_T31 l0 (m : Int)).f1]) [.int .i64 (rd_T31 l0 (m : Int)).f0, .int .u64 (rd_T31 l0 (m : Int)).f1] BK.out rfl (by kernel_rfl) (Nat.le_refl 2) (fun q hq => by simp only [List.mem_cons, List.not_mem_nil, or_false] at hq; rcases hq with rfl | rfl <;> rfl))); intro w8 hw; have HB3 := Aside0.mk (show Below w.heap.size w w8 by rw [hw]; exact below_store _ HB2.out GE.out); have HO3 := Aside0.mk (show Kd.R (Kd.int .i64) 3 w8 w.heap.size (fun _ => True) u3 (linesOf (l0.take m)) by rw [hw]; exact Kd.R_grown1 HO2.out rfl (grown_store _) HN.out); have hbk := (by rw [hw]; exact store_all _ BK.out rfl : w8.heap[gb]? = some (.cells #[.int .i64 (rd_T31 l0 (m : Int)).f0, .int .u64 (rd_T31 l0 (m : Int)).f1] 31 (0, 0))); have hcz0 : w8.cell? ⟨gb, 0, none⟩ = some (.int .i64 (rd_T31 l0 (m : Int)).f0) := (blk_cell hbk 0).trans rfl; clear hw hbk HB2 HO2 BK HN GE)
            | ((with_reducible refine gate_builtin (b := .append) (xs := #[.tmp 15, .tmp 19]) rfl ?_); at_builtin; refine Kd.R_append (Kd.int .i64) (w0 := w) w.heap.size rfl (.tmp 15) (.tmp 19) 43 3 (.int .i64 0) 8 rfl Try.underlying43 info_intL rfl (by decide) (by omega) _ (linesOf (l0.take m)) (wrap64 (Int.tdiv (rd_T31 l0 (m : Int)).f0 8)) [.int .i64 (wrap64 (Int.tdiv (rd_T31 l0 (m : Int)).f0 8))] (fun _ => True) (fun _ => False) rfl rfl ?aP (fun _ hk => hk.elim) ?aF ?aO ?aB ?aS ?aL ?_; (case aP => rfl); (case aB => exact HB3.out); (case aF => exact (fun _ _ => trivial)); (case aO => exact HO3.out); (case aS => exact below_size HB3.out); (case aL => rw [HL.out]; omega); intro v7 w7 ho hb hg hat7; have HO7 := Aside0.mk ho; have HB7 := Aside0.mk hb; clear ho hb hg hat7))
          go_roundg (l0.length - (m + 1))
          case measure => omega
          case rel => exact ⟨m + 1, by go_num, by omega, by omega, ⟨by rw [HS.out]; exact HO7.out⟩, HB7⟩
        · obtain rfl : m = l0.length := by omega
          rw [List.take_length] at HO
          go_wp2_with (go_at_call 34; refine (compact_own _ _ w _ HO.out (by rw [linesOf_len]; omega) HB.out).mono ?_; rintro e w7 ⟨v', rfl, ho, hb⟩; have HO7 := Aside0.mk ho; have HB7 := Aside0.mk hb; clear ho hb)
          go_ret
          exact ⟨_, rfl, HO7.out, HB7.out⟩
    · rw [if_neg hl] at h
      cases h
end Go.Proofs.Ytldlacphokbgcaa.Print
