/- The statements' helpers: a new memory, and that a view lives. -/
import Derived.Test.YtkbhilhefnahpaaViewZ
import Derived.Test.YtkbhilhefnahpaaPrint2
namespace Go.Proofs.Ytkbhilhefnahpaa.Vw
open Go Go.RowKit Go.Proofs.Ytkbhilhefnahpaa.ML Go.Proofs.Ytkbhilhefnahpaa.Mem Go.Proofs.Ytkbhilhefnahpaa.Print Go.Proofs.YtkbhilhefnahpaaW.PrintWords Go.Proofs.YtkbhilhefnahpaaW.PrintLast Go.Proofs.YtkbhilhefnahpaaW.PrintMore
set_option linter.unusedVariables false
set_option linter.unusedSimpArgs false
theorem reads_C {e : TypeId} {w : World} {base : Nat} {ok : Nat → Prop} {A : Option Addr} {n cap : Nat} {xs : List Int} (h : Kd.R (Kd.int .u64) e w base ok (.slice A n cap) xs) : Kd.C (Kd.int .u64) w A xs.length xs ∧ xs.length ≤ cap := by
  obtain ⟨A', cap', hv, hc, hC⟩ := Kd.R_reads h
  injection hv with e1 e2 e3
  subst e1 e3
  exact ⟨hC, hc⟩
theorem Write_as {w : World} {q : Vp} {f : Fp} {V : VS} (h : IsView w q f V) (i v : Int) (hi : oki i) (hv : okw v) (ho : PlanF.openB i = true) : Calls Try.prog 11 #[vptr q, .int .i64 i, .int .u64 v] w fun e w' =>
    e = .returned (.int .i64 0) ∧ IsView w' q f (V.put i v) ∧ Turn [q.bo] w w' := by
  have := Write_calls h i v hi hv
  rw [ho] at this
  exact this
theorem read_put (V : VS) (S : MS) (i v j : Int) : (V.put i v).read S j = if j = i then v else V.read S j := by
  unfold VS.read VS.put
  simp only [get_put]
  by_cases h : j = i
  · rw [if_pos h, if_pos h]; rfl
  · rw [if_neg h, if_neg h]
theorem put_away (V : VS) (i v : Int) : (V.put i v).away = V.away := rfl
theorem fresh_put (V : VS) (S : MS) (i v b : Int) : (V.put i v).fresh S b = (decide (0 ≤ b ∧ b < 96) && (S.read (200 + b) == 0) && ((if 200 + b = i then v else V.read S (200 + b)) == 0) && !noted V.away b) := by
  unfold VS.fresh
  rw [read_put, put_away]
def Clean (S : MS) : Prop := S.ws.length = 2824 ∧ ∀ i : Int, 8 ≤ i → i < 2824 → S.read i = 0
theorem fresh_new {S : MS} (h : Clean S) (i : Int) : newV.fresh S i = decide (0 ≤ i ∧ i < 96) := by
  unfold VS.fresh
  by_cases hi : 0 ≤ i ∧ i < 96
  · have e : newV.read S (200 + i) = S.read (200 + i) := rfl
    rw [e, h.2 _ (by omega) (by omega), decide_eq_true hi]
    rfl
  · rw [decide_eq_false hi]; simp
theorem now_of (S : MS) (i : Int) (h0 : 0 ≤ i) (h1 : i < S.ws.length) : S.read i = (S.at i).now := by
  unfold MS.read MS.has
  rw [decide_eq_true ⟨h0, h1⟩]
  rfl
theorem read_loadS {l : List Int} (hl : l.length ≤ 4096) (i : Int) (h0 : 0 ≤ i) (h1 : i < l.length) : (loadS l).read i = l.getD i.toNat 0 := by
  rw [now_of _ i h0 (by rw [loadS_len]; omega)]
  unfold MS.at loadS
  rw [List.take_of_length_le hl]
  simp only [List.getD_eq_getElem?_getD, List.getElem?_map, List.getElem?_eq_getElem (show i.toNat < l.length by omega), Option.map_some, Option.getD_some]
  rfl
def Sep (f : Fp) (q : Vp) : Prop := ∀ b ∈ f.list, b ≠ q.p ∧ b ≠ q.bo ∧ b ≠ q.bs ∧ b ≠ q.bm
theorem Sep.of {f : Fp} {q : Vp} {n : Nat} (h1 : ∀ b ∈ f.list, b < n) (h2 : ∀ b ∈ q.list, n ≤ b) : Sep f q := by
  intro b hb
  have := h1 b hb
  have a := h2 q.p (by simp [Vp.list])
  have c := h2 q.bo (by simp [Vp.list])
  have d := h2 q.bs (by simp [Vp.list])
  have e := h2 q.bm (by simp [Vp.list])
  omega
theorem Sep.mem1 {w w' : World} {f : Fp} {q : Vp} {S : MS} (h : Sep f q) (hm : IsMem w f S) (t : Turn [q.bo] w w') : IsMem w' f S :=
  hm.kept t fun b hb => by have := h b hb; simp; omega
theorem Sep.mem0 {w w' : World} {f : Fp} {q : Vp} {S : MS} (h : Sep f q) (hm : IsMem w f S) (t : Turn [q.p] w w') : IsMem w' f S :=
  hm.kept t fun b hb => by have := h b hb; simp; omega
def headL : List Int := [7021221306412823411, 2824, 0, 0, 0, 0, 0, 0]
theorem head_f : plan_Head.f 7 = some headL := by kernel_rfl
def img : List Int := cpy (List.replicate 2824 0) 0 headL
theorem img_eq : img = headL ++ List.replicate 2816 0 := by
  unfold img cpy
  rw [List.take_zero, List.nil_append, List.length_replicate, List.take_of_length_le (by decide), List.drop_replicate]
  rfl
theorem img_len : img.length = 2824 := by rw [img_eq, List.length_append, List.length_replicate]; rfl
theorem img_ok : ∀ v ∈ img, okw v := by
  intro v hv
  rw [img_eq] at hv
  unfold okw
  rcases List.mem_append.1 hv with hv | hv
  · simp [headL] at hv; omega
  · rw [List.eq_of_mem_replicate hv]; omega
theorem image_nil : escritoirelaw08_image.f 7 [] = some img := by
  unfold escritoirelaw08_image.f
  rw [if_pos (by omega), head_f, Option.bind_some]
  simp only [escritoirelaw08_image.l0]
  rw [if_neg (by simp)]
  rfl
theorem clean_img : Clean (loadS img) := by
  refine ⟨by rw [loadS_len, img_len]; omega, fun i h0 h1 => ?_⟩
  rw [read_loadS (by rw [img_len]; omega) i (by omega) (by rw [img_len]; omega), img_eq, List.getD_eq_getElem?_getD, List.getElem?_append_right (by simp [headL]; omega)]
  rw [List.getElem?_replicate]
  split <;> rfl
theorem add0 (a : Addr) : a.add 0 = a := by unfold Addr.add; simp
theorem nilC (w : World) : Kd.C k51 w none 0 [] := ⟨rfl, by decide, fun h => absurd h (by simp)⟩
theorem image_as (w : World) : Calls Try.prog 8 #[.slice none 0 0] w fun e w' => ∃ (A : Option Addr) (cap : Nat), e = .returned (.slice A 2824 cap) ∧ Kd.C (Kd.int .u64) w' A 2824 img ∧ 2824 ≤ cap ∧ Below w.heap.size w w' := by
  refine (escritoirelaw08_image.calls 7 none 0 [] img w (nilC w) (Nat.le_refl _) image_nil).mono ?_
  rintro e w' ⟨v, rfl, hR, hb⟩
  obtain ⟨A, cap, hv⟩ := Kd.R_slice hR
  have h := reads_C (by rw [hv] at hR; exact hR)
  rw [img_len] at hv h
  subst hv
  exact ⟨A, cap, rfl, h.1, h.2, hb⟩
theorem Load_as {w : World} {A : Option Addr} {cap : Nat} {l : List Int} (n : Nat) (hn : l.length = n) (hC : Kd.C (Kd.int .u64) w A n l) (hc : n ≤ cap) (hl : ∀ v ∈ l, okw v) :
    Calls Try.prog 7 #[.slice A n cap] w fun e w' => ∃ f : Fp, e = .returned (ptr f) ∧ IsMem w' f (loadS l) ∧ (∀ b ∈ f.list, w.heap.size ≤ b) ∧ Below w.heap.size w w' := by
  subst hn
  exact Load_calls A cap l hC hc hl
theorem New_as {w : World} {f : Fp} {S : MS} (h : IsMem w f S) (hl : S.ws.length = 2824) : Calls Try.prog 9 #[ptr f] w fun e w' => ∃ q : Vp, e = .returned (vptr q) ∧ IsView w' q f newV ∧ IsMem w' f S ∧ Sep f q ∧ (∀ b ∈ q.list, w.heap.size ≤ b) ∧ Below w.heap.size w w' := by
  refine (Vw.New_calls h (by omega)).mono ?_
  rintro e w' ⟨q, rfl, h1, h2, h3⟩
  exact ⟨q, rfl, h1, h.below h3, Sep.of h.lts h2, h2, h3⟩
def S0 : MS := loadS img
theorem S0_len : S0.ws.length = 2824 := clean_img.1
def v1 : VS := newV.put 1288 7
theorem fresh0 (i : Int) : newV.fresh S0 i = decide (0 ≤ i ∧ i < 96) := fresh_new clean_img i
theorem s1288 : S0.read 1288 = 0 := clean_img.2 _ (by omega) (by omega)
theorem read1 : v1.read S0 1288 = 7 := by unfold v1; rw [read_put, if_pos rfl]
theorem newV_read (S : MS) (i : Int) : newV.read S i = S.read i := rfl
theorem fresh1 : v1.fresh S0 3 = true := by
  unfold v1
  rw [fresh_put, if_neg (by omega), show S0.read (200 + 3) = 0 from clean_img.2 _ (by omega) (by omega)]
  rw [newV_read, show S0.read (200 + 3) = 0 from clean_img.2 _ (by omega) (by omega)]
  rfl
theorem changes1 : v1.changes S0 = [(1288, 7)] := by
  have e : v1.own = [(1288, 7)] := rfl
  unfold VS.changes
  rw [e, List.filter_cons_of_pos (by rw [s1288]; rfl)]
  rfl
theorem one_change {l : List Ch} (h : l.map toP = [(1288, 7)]) : l.length = 1 ∧ l.map toS = [⟨1288, 7⟩] := by
  cases l with
  | nil => cases h
  | cons p r =>
    cases r with
    | cons _ _ => exact absurd (congrArg List.length h) (by simp)
    | nil =>
      have h2 : toP p = (1288, 7) := by simpa using h
      refine ⟨rfl, ?_⟩
      have e1 : (p.1.val : Int) = 1288 := congrArg Prod.fst h2
      have e2 : p.2 = 7 := congrArg Prod.snd h2
      show [toS p] = _
      unfold toS
      rw [e1, e2]
set_option maxHeartbeats 4000000 in
set_option maxRecDepth 100000 in
theorem lives_calls (w : World) : Calls Try.prog 6 #[] w fun e w' => e = .returned (.bool true) ∧ Below w.heap.size w w' := by
  go_enter Try.func6, Try.ntmps6
  go_wp2_with (first
    | (go_at_call 8; refine (image_as _).mono ?_; rintro e w1 ⟨A, cap, rfl, hC, hc, hb⟩; have C1 := Aside0.mk hC; have K1 := Aside0.mk hc; have B1 := Aside0.mk hb; clear hC hc hb)
    | (go_at_call 7; refine (Load_as 2824 img_len C1.out K1.out img_ok).mono ?_; rintro e w2 ⟨f, rfl, f1, f2, f3⟩; have M2 := Aside0.mk (show IsMem w2 f S0 from f1); have B2 := Aside0.mk (B1.out.trans (f3.mono B1.out.size)); clear f1 f2 f3)
    | (go_at_call 9; refine (New_as M2.out S0_len).mono ?_; rintro e w3 ⟨q, rfl, f1, f2, f3, f4, f5⟩; have V3 := Aside0.mk f1; have M3 := Aside0.mk f2; have SP := Aside0.mk f3; have QL := Aside0.mk (fun b hb => Nat.le_trans B2.out.size (f4 b hb)); have B3 := Aside0.mk (B2.out.trans (f5.mono B2.out.size)); clear f1 f2 f3 f4 f5)
    | (go_at_call 11; refine (Write_as V3.out 1288 7 (by unfold oki; omega) (by unfold okw; omega) (by decide)).mono ?_; rintro e w4 ⟨rfl, r1, r2⟩; have V4 := Aside0.mk (show IsView w4 q f v1 from r1); have M4 := Aside0.mk (SP.out.mem1 M3.out r2); have T4 := Aside0.mk r2; clear r1 r2)
    | (go_at_call 20; refine (Changes_calls V4.out M4.out).mono ?_; rintro e w5 ⟨A5, cap5, l5, rfl, hc, hC, hl, hb⟩; rw [changes1] at hl; obtain ⟨hl1, hl2⟩ := one_change hl; rw [hl1, hl2] at hC; rw [hl1]; obtain ⟨ad, e5, x0, x1⟩ := at_T51 hC 0 (by omega) (by omega); subst e5; have V5 := Aside0.mk (V4.out.below hb); have M5 := Aside0.mk (M4.out.below hb); have T5 := Aside0.mk (T4.out.trans (Turn.of_below hb _)); have y0 : w5.cell? ad = some (.int .i64 1288) := (by have e := x0; rw [show ad.add ((0 : Int).toNat * 2) = ad from add0 ad] at e; exact e); have y1 : w5.cell? ⟨ad.block, ad.off + 1, none⟩ = some (.int .u64 7) := (by have e := x1; rw [show ad.add ((0 : Int).toNat * 2) = ad from add0 ad] at e; exact e); clear x0 x1; clear hc hC hl hl1 hl2 hb)
    | (go_at_call 19; refine (Read_as V5.out M5.out 1288 (by unfold oki; omega) 7 read1).mono ?_; rintro e w6 ⟨rfl, rfl⟩)
    | (go_at_call 32; refine (mRead_as M5.out 1288 (by unfold oki; omega) 0 s1288).mono ?_; rintro e w6 ⟨rfl, rfl⟩)
    | (go_at_call 10; refine (Fresh_as V5.out M5.out 3 (by unfold oki; omega) true fresh1).mono ?_; rintro e w6 ⟨rfl, hb⟩; have T6 := Aside0.mk (T5.out.trans (Turn.of_below hb _)); clear hb))
  go_ret
  exact ⟨rfl, B3.out.trans (T6.out.below B3.out.size (fun x hx => by
    have a := QL.out q.bo (by simp [Vp.list])
    simp at hx
    omega))⟩
end Go.Proofs.Ytkbhilhefnahpaa.Vw
