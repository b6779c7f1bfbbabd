/- slices.Repeat of one number: so many of it, in new memory. -/
import Derived.Test.YtjigomnmfhbjmaaPrint0
import Derived.Test.YtjigomnmfhbjmaaPrint2
import Derived.WalkSpells
import Derived.Laws.CopyOwn
import Derived.Deep.RegionLaw
import Derived.Laws.BitsAllLaws
namespace Go.Proofs.Ytjigomnmfhbjmaa.Print
open Go.RowKit Go.Proofs.YtjigomnmfhbjmaaW.PrintWords Go.Proofs.YtjigomnmfhbjmaaW.PrintLast Go.Proofs.YtjigomnmfhbjmaaW.PrintMore
theorem info_int3r : (Try.prog.info? 3).map (fun i => (i.zero, i.size, i.bytes)) = some (some (.int .i64 0), 1, 8) := by kernel_rfl
def slices_Repeat_int_int.f (l0 : List Int) (a1 : Int) : Option (List Int) := if l0.length = 1 ∧ 0 ≤ a1 ∧ a1 ≤ 1000000 then some (List.replicate a1.toNat (rd l0 0)) else none
theorem repeat_mul (c : Nat) (h : c ≤ 1000000) : bits_Mul.f 1 (c : Int) = some (0, (c : Int)) := by
  have e1 : Go.bits .and .u64 (c : Int) 4294967295 = (c : Int) := by
    have := u64_and_nat c 4294967295 (by omega) (by omega)
    rw [show ((4294967295 : Nat) : Int) = 4294967295 from rfl] at this
    rw [this, show (4294967295 : Nat) = 2 ^ 32 - 1 from rfl, Nat.and_two_pow_sub_one_eq_mod, Nat.mod_eq_of_lt (by omega)]
  have e2 : Go.bits .and .u64 1 4294967295 = 1 := by kernel_rfl
  have e3 : (1 : Int) / 4294967296 = 0 := by omega
  have e4 : (c : Int) / 4294967296 = 0 := by omega
  have w0 : ∀ n : Int, 0 ≤ n → n ≤ 1000000 → IntKind.u64.wrap n = n := by
    intro n h0 h1
    simp [IntKind.wrap, IntKind.signed, IntKind.bits]; omega
  have e5 : Go.bits .and .u64 0 4294967295 = 0 := by kernel_rfl
  unfold bits_Mul.f bits_Mul64.f
  simp only [e1, e2, e3, e4, Int.zero_mul, Int.one_mul, Int.mul_zero, Option.bind_some]
  simp only [w0 0 (by omega) (by omega), w0 c (by omega) (by omega), e4, e5, Int.add_zero, show (0 : Int) / 4294967296 = 0 by omega]
def repCells (x : Int) (c m : Nat) (tail : List Value) : List Value := (List.replicate m x ++ List.replicate (c - m) 0).map (Value.int .i64) ++ tail
theorem repCells_length (x : Int) (c m : Nat) (tail : List Value) (h : m ≤ c) : (repCells x c m tail).length = c + tail.length := by simp [repCells]; omega
theorem repCells_at (x : Int) (c m : Nat) (tail : List Value) (j : Nat) (h : j < m) : (repCells x c m tail)[j]? = some (.int .i64 x) := by
  unfold repCells
  rw [List.getElem?_append_left (by simp; omega), List.getElem?_map, List.getElem?_append_left (by simpa using h)]
  simp [h]
theorem repCells_splice (x : Int) (c m k : Nat) (tail : List Value) (h : m + k ≤ c) : splice (repCells x c m tail) m (List.replicate k (.int .i64 x)) = repCells x c (m + k) tail := by
  unfold splice repCells
  simp only [List.map_append, List.map_replicate, List.length_replicate, List.append_assoc]
  rw [List.take_append_of_le_length (by simp), List.take_of_length_le (by simp), List.drop_append, List.drop_of_length_le (by simp), List.nil_append]
  simp only [List.length_replicate, Nat.add_sub_cancel_left]
  rw [List.drop_append_of_le_length (by simp; omega), List.drop_replicate, show c - m - k = c - (m + k) by omega, ← List.append_assoc, List.replicate_append_replicate]
theorem repeat_row {W w1 : World} {base c : Nat} {v : Value} (x : Int) (h : (Kd.int .i64).R 3 w1 base (fun _ => True) v (List.replicate c 0)) (hn : ∃ b, v.ownBlock = some b ∧ W.heap.size ≤ b) :
    ∃ g cap tail, v = .slice (some ⟨g, 0, none⟩) c cap ∧ base ≤ g ∧ w1.heap[g]? = some (.cells (repCells x c 0 tail).toArray 3 (0, 0)) ∧ c ≤ cap ∧ cap ≤ maxLen ∧ c + tail.length = cap := by
  have ho := Kd.own_of_R h
  rcases ho.2 with ⟨rfl, _⟩ | ⟨g, cap, cur, rfl, h1, h2, h3, h4, h5, h6⟩
  · obtain ⟨b, hb, _⟩ := hn
    simp [Value.ownBlock] at hb
  · refine ⟨g, cap, cur.toList.drop c, by simp, h1, ?_, by simpa using h3, h4, ?_⟩
    · rw [h2]
      have e1 : (cur.toList.take c) = List.replicate c (Value.int .i64 0) := by simpa [encs] using h6
      have : cur = (repCells x c 0 (cur.toList.drop c)).toArray := by
        apply Array.toList_inj.1
        show _ = repCells x c 0 (cur.toList.drop c)
        unfold repCells
        simp only [List.replicate_zero, List.nil_append, Nat.sub_zero, List.map_replicate]
        rw [← e1, List.take_append_drop]
      rw [← this]
    · have : cur.size = cap := by simpa using h5
      rw [List.length_drop, Array.length_toList]
      have h3 : c ≤ cap := by simpa using h3
      omega
theorem repeat_done {w1 : World} {base g c cap : Nat} {x : Int} {tail : List Value} (h : w1.heap[g]? = some (.cells (repCells x c c tail).toArray 3 (0, 0))) (hb : base ≤ g) (hc : c ≤ cap) (hm : cap ≤ maxLen) (ht : c + tail.length = cap) :
    (Kd.int .i64).R 3 w1 base (fun _ => True) (.slice (some ⟨g, 0, none⟩) c cap) (List.replicate c (rd [x] 0)) := by
  have ho : w1.ownsRow base 3 1 (.slice (some ⟨g, 0, none⟩) c cap) (List.replicate c x).length (encs (Value.int .i64) (List.replicate c x)) := by
    refine ⟨by simp [encs], .inr ⟨g, cap, _, by simp, hb, h, by simpa using hc, hm, ?_, ?_⟩⟩
    · rw [List.size_toArray, repCells_length _ _ _ _ (Nat.le_refl _)]; omega
    · simp [repCells, encs]
  exact Kd.R_of_own (h1 := fun _ => rfl) ho (fun _ _ => trivial)
set_option maxHeartbeats 400000 in
theorem slices_Repeat_int_int.calls (A0 : Option Addr) (c0 : Nat) (l0 : List Int) (a1 : Int) (r : List Int) (w : World) (hr0 : Kd.C (Kd.int .i64) w A0 l0.length l0) (_hc0 : l0.length ≤ c0) (h : slices_Repeat_int_int.f l0 a1 = some r) :
    Calls Try.prog 19 #[.slice A0 l0.length c0, .int .i64 a1] w fun e w' => ∃ v0_ : Value, e = .returned (v0_) ∧ Kd.R (Kd.int .i64) 3 w' w.heap.size (fun _ => True) v0_ r ∧ Below w.heap.size w w' := by
  unfold slices_Repeat_int_int.f at h
  by_cases hc : l0.length = 1 ∧ 0 ≤ a1 ∧ a1 ≤ 1000000
  · rw [if_pos hc] at h
    obtain rfl := Option.some.inj h
    clear h
    obtain ⟨h1, h2, h3⟩ := hc
    obtain ⟨x, rfl⟩ := List.length_eq_one_iff.1 h1
    clear h1
    obtain ⟨c, rfl⟩ := Int.eq_ofNat_of_zero_le h2
    have hm := Aside0.mk (repeat_mul c (by omega))
    have HR := Aside0.mk hr0
    clear hr0 h2
    obtain ⟨ad, rfl, hcell⟩ := HR.out.2.2 (by simp)
    have hx0 : w.cell? ad = some (.int .i64 x) := by
      obtain ⟨cs, h1, h2, h3⟩ := hcell 0 x rfl
      have h2 : cs = [.int .i64 x] := h2
      subst h2
      have := h3 0 _ rfl
      rwa [show ad.add (0 * (Kd.int .i64).sz + 0) = ad from by rw [Nat.zero_mul]; exact Addr.add_zero' ad] at this
    go_enter Try.func19, Try.ntmps19
    go_wp2_with (first
      | (go_at_call 22; refine (bits_Mul.calls 1 c 0 c _ hm.out).mono ?_; rintro e w1 ⟨rfl, ⟨nd, rfl⟩⟩)
      | ((with_reducible refine gate_dst (N := 30) rfl ?_); refine Kd.R_make (Kd.int .i64) _ 3 rfl (N := 30) rfl 23 _ _ rfl (c : Int) rfl rfl Try.underlying23 (.int .i64 0) 8 info_int3r rfl (by decide) (by omega) 0 (ok := fun _ => True) (okp := fun _ => True) rfl (fun _ hk => hk) trivial (by omega) (by omega) (Below.refl _ _) (Nat.le_refl _) ?_; intro v7 w7 ho7 hb7 hg7 hn7; clear hg7; rw [Int.toNat_natCast] at ho7; obtain ⟨g, cap, tail, e7, hgB, hg, hcap, hmax, htail⟩ := repeat_row x ho7 hn7; subst e7; have HG := Aside0.mk hg; have HB7 := Aside0.mk hb7; clear ho7 hb7 hn7 hg)
      | (refine wpList_copy_splice rfl (.tmp 31) (.tmp 32) 23 23 rfl 3 Try.underlying23 rfl _ _ _ _ _ _ rfl rfl g 0 (repCells x c 0 tail) 3 HG.out (List.replicate (min 1 c) (.int .i64 x)) ?hn ?hpos ?hfit ?h1 w.heap.size w ?hb ?hBg ?_))
    case hn => simp
    case hpos =>
      intro hp j v hj
      have hj0 : j = 0 := by
        have := (List.getElem?_eq_some_iff.1 hj).1
        simp at this; omega
      subst hj0
      have hv : v = .int .i64 x := List.eq_of_mem_replicate (List.mem_of_getElem? hj)
      subst hv
      rw [show ad.add 0 = ad from Addr.add_zero' ad]
      exact (HB7.out.cell (World.block_lt_of_cell? _ _ (by exact hx0))).trans hx0
    case hfit => rw [repCells_length _ _ _ _ (by omega)]; simp; omega
    case h1 => intro v hv; rw [List.eq_of_mem_replicate hv]; rfl
    case hb => exact (pw_below_drewN (Below.refl _ _) nd).trans HB7.out
    case hBg => exact hgB
    intro w8 hg8 hb8
    obtain ⟨m0, hm0, hm1, hm2⟩ : ∃ m, m = min 1 c ∧ m ≤ c ∧ (1 ≤ c → 1 ≤ m) := ⟨_, rfl, by omega, by omega⟩
    have HG8 := Aside0.mk (show w8.heap[g]? = some (.cells (repCells x c m0 tail).toArray 3 (0, 0)) by
      have := hg8.out
      rw [← hm0, repCells_splice _ _ _ _ _ (by omega), Nat.zero_add] at this
      exact this)
    have HB8 := Aside0.mk hb8
    rw [← hm0]
    clear hg8 hb8 hm0 HG HB7 hx0 HR hm
    go_wp2_with fail
    go_loopg [8] c (fun gk v8 wr => ∃ m : Nat, v8 = .int .i64 m ∧ m ≤ c ∧ (1 ≤ c → 1 ≤ m) ∧ c - m ≤ gk ∧ Aside0 (wr.heap[g]? = some (.cells (repCells x c m tail).toArray 3 (0, 0))) ∧ Aside0 (Below w.heap.size w wr))
    case atStart => exact ⟨m0, rfl, hm1, hm2, by omega, HG8, HB8⟩
    case round =>
      clear HG8 HB8 hm1 hm2
      obtain ⟨m, rfl, hm1, hm2, hgk, HG, HB⟩ := hrel
      by_cases hlt : m < c
      · have hk1 : 1 ≤ m := by omega
        obtain ⟨k, hk, hkm, hk0⟩ : ∃ k, k = min m (c - m) ∧ m + k ≤ c ∧ 1 ≤ k := ⟨_, rfl, by omega, by omega⟩
        have hkm2 : k ≤ m := by omega
        have Hk := Aside0.mk hk
        clear hk
        have hsum : IntKind.i64.wrap ((m : Int) + (k : Int)) = ((m + k : Nat) : Int) := by simp [IntKind.wrap, IntKind.signed, IntKind.bits]; omega
        have s1 : (List.replicate (k) (Value.int .i64 x)).length = Nat.min m (c - m) := by rw [List.length_replicate]; exact Hk.out
        have s2 : ∀ j v, (List.replicate (k) (Value.int .i64 x))[j]? = some v → wr.cell? ((⟨g, 0, none⟩ : Addr).add j) = some v := by
          intro j v hj
          have hjl := (List.getElem?_eq_some_iff.1 hj).1
          have hv : v = .int .i64 x := List.eq_of_mem_replicate (List.mem_of_getElem? hj)
          subst hv
          rw [add_plain]
          have := HG.out
          simp only [World.cell?, this]
          simp only [Option.isSome_none, Bool.false_eq_true, if_false, List.getElem?_toArray]
          exact repCells_at x c m tail j (by simp at hjl; omega)
        have S1 := Aside0.mk s1
        have S2 := Aside0.mk s2
        clear s1 s2
        have q1 : (m ≤ cap) = True := eq_true (by omega)
        have q2 : (cap = m) = False := eq_false (by omega)
        go_wp2_with fail
        have t1 : Aside0 (wr.drew.heap[g]? = some (.cells (repCells x c m tail).toArray 3 (0, 0))) := ⟨HG.out⟩
        have t2 : Aside0 (m + (List.replicate (k) (Value.int .i64 x)).length ≤ (repCells x c m tail).length) := ⟨by rw [repCells_length _ _ _ _ hm1]; simp; omega⟩
        have t3 : Aside0 (∀ v ∈ List.replicate (k) (Value.int .i64 x), v.oneCell' = true) := ⟨fun v hv => by rw [List.eq_of_mem_replicate hv]; rfl⟩
        have t4 : Aside0 (Below w.heap.size w wr.drew) := ⟨below_drew HB.out⟩
        have t5 : Aside0 (∀ j v, (List.replicate (k) (Value.int .i64 x))[j]? = some v → wr.drew.cell? ((⟨g, 0, none⟩ : Addr).add j) = some v) := ⟨S2.out⟩
        have t6 : Aside0 (g ≥ w.heap.size) := ⟨hgB⟩
        go_region_law (refine step_copy_splice rfl (.tmp 41) (.tmp 44) 23 23 rfl 3 Try.underlying23 (by kernel_rfl) (some ⟨g, m, none⟩) (some ⟨g, 0, none⟩) (c - m) (cap - m) m cap (by kernel_rfl) (by kernel_rfl) g m (repCells x c m tail) 3 t1.out (List.replicate (k) (.int .i64 x)) S1.out (fun _ => ⟨rfl, _, rfl, t5.out⟩) t2.out t3.out w.heap.size w t4.out t6.out ?_; intro w9 hg9 hb9)
        all_goals
          have HG9 := Aside0.mk (show w9.heap[g]? = some (.cells (repCells x c (m + k) tail).toArray 3 (0, 0)) by
            have := hg9.out
            rw [repCells_splice _ _ _ _ _ hkm] at this
            exact this)
          have HB9 := Aside0.mk hb9
          clear hg9 hb9 t1 t2 t3 t4 t5 t6 S1 S2 HG HB
          go_wp2
          go_roundg (c - (m + k))
          case measure => omega
          case rel => exact ⟨m + k, by go_num, hkm, by omega, Nat.le_refl _, HG9, HB9⟩
      · have hmc : m = c := by omega
        have hq : (m < c) = False := eq_false (by omega)
        go_wp2
        go_ret
        exact ⟨_, rfl, by rw [Int.toNat_natCast]; exact repeat_done (by have := HG.out; rwa [hmc] at this) hgB hcap hmax htail, HB.out⟩
  · rw [if_neg hc] at h
    cases h
end Go.Proofs.Ytjigomnmfhbjmaa.Print
