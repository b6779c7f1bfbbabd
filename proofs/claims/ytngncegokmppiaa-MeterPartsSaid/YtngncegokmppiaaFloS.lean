/- Few numbers in order. -/
import Derived.Shelf.SlSortCmp.Insertion
import Derived.Shelf.Lay
import Derived.WalkSpells
import Derived.Ground.SlsfProg
import Derived.Test.YtngncegokmppiaaFloE
namespace Go.Proofs.Ytngncegokmppiaa.Flo
open Go Go.RowKit Go.Shelf Go.Lib Go.Sort Go.Proofs.YtngncegokmppiaaW.PrintWords Go.Proofs.YtngncegokmppiaaW.PrintLast Go.Proofs.YtngncegokmppiaaW.PrintMore
set_option linter.unusedVariables false
set_option linter.unusedSimpArgs false
shelf_lay_g SlLaysF.n20 Slsf 20 at Try 49 as Try.insF
theorem cmpReads (blk off size : Nat) (w : World) : CmpReads Try.prog 11 #[] (Value.float .f64) cmpF blk off size w := by
  intro m os dk hs x y
  refine (gCmp_calls _ x y).mono ?_
  rintro e w' ⟨rfl, rfl⟩
  exact ⟨rfl, 0, rfl⟩
theorem holdsF {w : World} {base : Nat} {ok : Nat → Prop} {g cap : Nat} {l : List Nat} (h : Kd.R kF 23 w base ok (.slice (some ⟨g, 0, none⟩) l.length cap) l) (h0 : 0 < l.length) : Holds (Value.float .f64) w g 0 l.toArray ∧ base ≤ g ∧ g < w.heap.size := by
  have hown : w.ownsRow base 23 1 (.slice (some ⟨g, 0, none⟩) l.length cap) l.length (l.map (Value.float .f64)) := Kd.own_of_R h
  obtain ⟨h1, h2 | ⟨g', cap', cur, hv, hb, hh, h3, h4, h5, h6⟩⟩ := hown
  · omega
  · injection hv with hv _ hc
    injection hv with hv
    injection hv with hv
    subst hv hc
    have hlt : ∀ j, j < l.length → cur[j]? = some (Value.float .f64 (l.toArray[j]!)) := by
      intro j hj
      have e : (cur.toList.take (l.length * 1))[j]? = (l.map (Value.float .f64))[j]? := by rw [h6]
      rw [List.getElem?_take, if_pos (by omega), List.getElem?_map, List.getElem?_eq_getElem hj] at e
      rw [← Array.getElem?_toList, e]
      simp [hj]
    refine ⟨fun j hj => ⟨?_, ?_⟩, hb, (Array.getElem?_eq_some_iff.1 hh).1⟩
    · rw [Nat.zero_add]
      unfold World.cell?
      simp only [hh]
      exact hlt j (by simpa using hj)
    · unfold World.frozen?
      simp [hh]
theorem C_holdsF {w : World} {g : Nat} {d : Array Nat} (h : Holds (Value.float .f64) w g 0 d) (hn : d.size ≤ 9223372036854775807) : Kd.C kF w (some ⟨g, 0, none⟩) d.size d.toList := by
  refine ⟨by simp, hn, fun h0 => ⟨⟨g, 0, none⟩, rfl, fun j p hj => ⟨[.float .f64 p], rfl, rfl, fun i u hi => ?_⟩⟩⟩
  have hi0 : i = 0 := by have := (List.getElem?_eq_some_iff.1 hi).1; simpa using this
  subst hi0
  obtain rfl : Value.float .f64 p = u := by simpa using hi
  have hjl : j < d.size := by have := (List.getElem?_eq_some_iff.1 hj).1; simpa using this
  have hc := (h j hjl).1
  have e : d[j]! = p := by
    rw [getElem!_pos d j hjl]
    rw [Array.getElem?_toList, Array.getElem?_eq_getElem hjl] at hj
    exact Option.some.inj hj
  rw [e, Nat.zero_add] at hc
  show w.cell? (Addr.add ⟨g, 0, none⟩ (j * 1 + 0)) = some (.float .f64 p)
  rw [← hc]
  unfold Addr.add
  split
  · rename_i hz
    have : j = 0 := by omega
    rw [this]
  · simp
theorem putF_frame (w : World) (blk n : Nat) (d : Array Nat) {base : Nat} (hb : base ≤ blk) : Below base w ((putRow (Value.float .f64) w blk 0 d).drewN n) := by
  refine ⟨rfl, rfl, rfl, ?_, fun k hk => ?_⟩
  · show w.heap.size ≤ (putRow (Value.float .f64) w blk 0 d).heap.size
    rw [size_putRow]
    exact Nat.le_refl _
  · show (putRow (Value.float .f64) w blk 0 d).heap[k]? = w.heap[k]?
    unfold putRow mapBlock
    simp [Array.getElem?_modify]
    intro h
    omega
theorem insInner_size (lt : Nat → Nat → Bool) (a : Nat) : ∀ (j : Nat) (d : Array Nat), (insInner lt a j d).size = d.size := by
  intro j
  induction j with
  | zero => intro d; rfl
  | succ j ih =>
    intro d
    unfold insInner
    split
    · rw [ih]; simp [swp]
    · rfl
theorem insOuter_size (lt : Nat → Nat → Bool) (a b : Nat) : ∀ (m i : Nat) (d : Array Nat), b - i = m → (insOuter lt a b i d).size = d.size := by
  intro m
  induction m with
  | zero =>
    intro i d hm
    rw [insOuter, if_neg (by omega)]
  | succ m ih =>
    intro i d hm
    rw [insOuter, if_pos (by omega), ih (i + 1) _ (by omega), insInner_size]
def sortF (l : List Nat) : List Nat := (insertionSort (ltOf cmpF) l.toArray 0 l.length).toList
theorem ins_calls {w : World} {base : Nat} {ok : Nat → Prop} {g cap : Nat} {l : List Nat} (h : Kd.R kF 23 w base ok (.slice (some ⟨g, 0, none⟩) l.length cap) l) (h0 : 0 < l.length) (hl : l.length ≤ 4096) :
    Calls Try.prog 49 #[.slice (some ⟨g, 0, none⟩) l.length cap, .int .i64 0, .int .i64 (l.length : Int), .func (.func 11) #[] #[]] w fun e w' => e = .returned (.tuple #[]) ∧ Kd.C kF w' (some ⟨g, 0, none⟩) (sortF l).length (sortF l) ∧ (sortF l).length = l.length ∧ Below base w w' := by
  obtain ⟨hH, hb, hg⟩ := holdsF h h0
  have eg : ∀ args w, (callFunc 11 args).run Try.prog w = .ok (.enter 11 args) w := enters_of Try.func11 (by kernel_rfl) rfl
  have hs := Any.insertionSortCmpFunc_one Try.insF (Value.float .f64) (fun _ => rfl) cmpF 11 #[] g 0 cap 0 l.length l.toArray w eg (cmpReads g 0 _ w) hH (Nat.zero_le _) (by simp) (by simp; omega)
  change Calls Try.prog 49 _ _ _ at hs
  rw [List.size_toArray] at hs
  have hsz : (insertionSort (ltOf cmpF) l.toArray 0 l.length).size = l.toArray.size := by
    unfold insertionSort
    exact insOuter_size _ _ _ _ _ _ rfl
  refine hs.mono ?_
  rintro e w' ⟨rfl, n, rfl⟩
  have hH2 : Holds (Value.float .f64) ((putRow (Value.float .f64) w g 0 (insertionSort (ltOf cmpF) l.toArray 0 l.length)).drewN n) g 0 (insertionSort (ltOf cmpF) l.toArray 0 l.length) := holds_putRow _ w g 0 _ _ hH hsz
  have hlen : (sortF l).length = l.length := by
    unfold sortF
    rw [Array.length_toList, hsz, List.size_toArray]
  refine ⟨rfl, ?_, hlen, putF_frame w g n _ hb⟩
  have hC := C_holdsF hH2 (by rw [hsz]; simp; omega)
  unfold sortF
  rw [Array.length_toList]
  exact hC
set_option maxHeartbeats 1000000 in
theorem stable_calls {w : World} {base : Nat} {ok : Nat → Prop} {g cap : Nat} {l : List Nat} (h : Kd.R kF 23 w base ok (.slice (some ⟨g, 0, none⟩) l.length cap) l) (h0 : 0 < l.length) (hl : l.length < 20) :
    Calls Try.prog 48 #[.slice (some ⟨g, 0, none⟩) l.length cap, .int .i64 (l.length : Int), .func (.func 11) #[] #[]] w fun e w' => e = .returned (.tuple #[]) ∧ Kd.C kF w' (some ⟨g, 0, none⟩) (sortF l).length (sortF l) ∧ (sortF l).length = l.length ∧ Below base w w' := by
  have HI := Aside0.mk (ins_calls h h0 (by omega))
  have hl1 : ¬ (20 ≤ l.length) := by omega
  clear h
  go_enter Try.func48, Try.ntmps48
  go_wp2
  go_loopw [7, 8] (fun x y wr => x = .int .i64 0 ∧ y = .int .i64 20 ∧ wr = w) (fun _ _ _ => 0)
  case atStart => exact ⟨rfl, rfl, rfl⟩
  case round =>
    obtain ⟨rfl, rfl, rfl⟩ := hrel
    go_wp2_with (go_at_call 49; refine HI.out.mono ?_; rintro e w1 ⟨rfl, hC, hn, hb⟩; have C1 := Aside0.mk hC; have N1 := Aside0.mk hn; have B1 := Aside0.mk hb; clear hC hn hb)
    go_loopw [6, 7, 8, 9] (fun x _ _ _ ws => x = .int .i64 20 ∧ ws = w1) (fun _ _ _ _ _ => 0)
    case atStart => exact ⟨rfl, rfl⟩
    case round =>
      obtain ⟨rfl, rfl⟩ := hrel
      go_wp2
      go_returns
      exact ⟨rfl, C1.out, N1.out, B1.out⟩
set_option maxHeartbeats 1000000 in
theorem Clone_calls {w : World} {ad : Addr} {c : Nat} {l : List Nat} (hr : Kd.C kF w (some ad) l.length l) (hl : l.length ≤ 4096) : Calls Try.prog 42 #[.slice (some ad) l.length c] w fun e w' => ∃ v0 : Value, e = .returned v0 ∧ Kd.R kF 23 w' w.heap.size (fun _ => True) v0 l ∧ Below w.heap.size w w' := by
  have HR := Aside0.mk hr
  clear hr
  have heq := fun wx => Lib.run_eql_slice_nil (P := Try.prog) wx 22 23 (some ad) l.length c 0 0 Try.underlying22
  have HB := Aside0.mk (Below.refl w.heap.size w)
  go_enter Try.func42, Try.ntmps42
  go_wp2_with (first
    | ((with_reducible refine gate_dst (N := 5) rfl ?_); refine Kd.R_lit kF _ 23 ?hg (N := 5) ?hd (xs := ([] : List Nat)) (inner := []) (ok := fun _ => True) (okp := fun _ => True) ?hr ?hp (fun _ hk => hk) trivial (Below.refl _ _) (Nat.le_refl _) (by simp) ?_; (case hd => rfl); (case hg => rfl); (case hr => first | (go_simp; done) | (go_simp; rfl)); (case hp => exact (Reps.none _ _)); intro v5 w5 ho5 hb5 hg5 hn5; clear hg5 hn5; have HO5 := Aside0.mk (Kd.R_lower ho5 (below_size HB.out)); have HB5 := Aside0.mk (below_step HB.out hb5); clear ho5)
    | ((with_reducible refine gate_builtin (b := .append) (xs := #[.tmp 5, .tmp 6]) rfl ?_); at_builtin; refine Kd.R_append_rows kF (w0 := w) w.heap.size rfl (.tmp 5) (.tmp 6) 22 23 (.float .f64 0) 8 rfl Try.underlying22 info_f64 rfl (by decide) (by omega) v5 [] l (some ad) l.length c (fun _ => True) (fun _ => False) rfl rfl HO5.out (Kd.C_below HR.out hb5) (fun _ _ h => h) (fun _ h => h.elim) (fun _ _ => trivial) HB5.out (below_size HB5.out) (by simp; omega) ?_; intro v7 w7 ho7 hb7 hg7 hat7; clear hg7 hat7; have HO7 := Aside0.mk ho7; have HB7 := Aside0.mk hb7; clear ho7 hb7))
  go_ret
  exact ⟨_, rfl, HO7.out, HB7.out⟩
set_option maxHeartbeats 1000000 in
theorem SortS_calls {w : World} {base : Nat} {ok : Nat → Prop} {g cap : Nat} {l : List Nat} (h : Kd.R kF 23 w base ok (.slice (some ⟨g, 0, none⟩) l.length cap) l) (h0 : 0 < l.length) (hl : l.length < 20) :
    Calls Try.prog 43 #[.slice (some ⟨g, 0, none⟩) l.length cap, .func (.func 11) #[] #[]] w fun e w' => e = .returned (.tuple #[]) ∧ Kd.C kF w' (some ⟨g, 0, none⟩) (sortF l).length (sortF l) ∧ (sortF l).length = l.length ∧ Below base w w' := by
  have HI := Aside0.mk (stable_calls h h0 hl)
  clear h
  go_enter Try.func43, Try.ntmps43
  go_wp2_with (go_at_call 48; refine HI.out.mono ?_; rintro e w1 ⟨rfl, hC, hn, hb⟩; have C1 := Aside0.mk hC; have N1 := Aside0.mk hn; have B1 := Aside0.mk hb; clear hC hn hb)
  go_returns
  exact ⟨rfl, C1.out, N1.out, B1.out⟩
set_option maxHeartbeats 1000000 in
theorem gSort_calls {w : World} {A : Option Addr} {c : Nat} {l : List Nat} (hr : Kd.C kF w A l.length l) (h0 : 0 < l.length) (hl : l.length < 20) : Calls Try.prog 31 #[.slice A l.length c] w fun e w' => ∃ g cap, e = .returned (.slice (some ⟨g, 0, none⟩) l.length cap) ∧ Kd.C kF w' (some ⟨g, 0, none⟩) l.length (sortF l) ∧ Below w.heap.size w w' := by
  obtain ⟨ad, x, hA, _, _⟩ := flo_at hr 0 h0
  subst hA
  have HR := Aside0.mk hr
  clear hr
  go_enter Try.func31, Try.ntmps31
  go_wp2_with (first
    | (go_at_call 42; refine (Clone_calls HR.out (by omega)).mono ?_; rintro e w1 ⟨v0, rfl, hR, hb⟩; obtain ⟨g, cap, ev, hg⟩ := Kd.R_form hR h0; subst ev; have R1 := Aside0.mk hR; have B1 := Aside0.mk hb; clear hR hb hg)
    | (go_at_call 43; refine (SortS_calls R1.out h0 hl).mono ?_; rintro e w2 ⟨rfl, hC, hn, hb⟩; rw [hn] at hC; have C2 := Aside0.mk hC; have B2 := Aside0.mk (B1.out.trans hb); clear hC hn hb))
  go_ret
  exact ⟨g, cap, rfl, C2.out, B2.out⟩
end Go.Proofs.Ytngncegokmppiaa.Flo
