/- The changes, made in the memory, make it read as the view does. -/
import Derived.Test.YtkbhilhefnahpaaLwW
namespace Go.Proofs.Ytkbhilhefnahpaa.Rf
open Go Go.RowKit Go.Proofs.Ytkbhilhefnahpaa.ML Go.Proofs.Ytkbhilhefnahpaa.Mem Go.Proofs.Ytkbhilhefnahpaa.Vw Go.Proofs.Ytkbhilhefnahpaa.Reg Go.Proofs.Ytkbhilhefnahpaa.Print Go.Proofs.YtkbhilhefnahpaaW.PrintWords Go.Proofs.YtkbhilhefnahpaaW.PrintLast Go.Proofs.YtkbhilhefnahpaaW.PrintMore
set_option linter.unusedVariables false
set_option linter.unusedSimpArgs false
theorem Store_as {w : World} {f : Fp} {S : MS} (h : IsMem w f S) (i v : Int) (hi : oki i) (hv : okw v) (hs : (S.store i v).1 = 0) : Calls Try.prog 21 #[ptr f, .int .i64 i, .int .u64 v] w fun e w' => e = .returned (.int .i64 0) ∧ IsMem w' f (S.store i v).2 ∧ Turn f.list w w' := by
  rw [← hs]
  exact Mem.Store_calls h i v hi hv
theorem pOpen_as (w : World) (i : Int) (hi : oki i) (ho : PlanF.openB i = true) : Calls Try.prog 22 #[.int .i64 i] w fun e w' => e = .returned (.bool true) ∧ Below w.heap.size w w' := by
  refine (plan_Open.calls 7 i true w (by rw [PlanF.Open_f i hi.1 hi.2, ho])).mono ?_
  rintro e w' ⟨rfl, hb⟩
  exact ⟨rfl, by first | exact hb | exact hb.below⟩
theorem SameB_as {w : World} {A A' : Option Addr} {n c n' c' : Nat} {l l' : List Int} (h1 : Kd.C (Kd.int .u64) w A n l) (h2 : l.length = n) (h3 : n ≤ 4096) (h4 : n ≤ c) (k1 : Kd.C (Kd.int .u64) w A' n' l') (k2 : l'.length = n') (k4 : n' ≤ c') (hb : l = l') :
    Calls Try.prog 23 #[.slice A n c, .slice A' n' c'] w fun e w' => e = .returned (.bool true) ∧ Below w.heap.size w w' := by
  subst h2 k2 hb
  obtain ⟨k, hk⟩ := (Cp.Same_ev l l (by omega)).rounds
  rw [decide_eq_true rfl] at hk
  refine (escritoireref01_Same.calls k A c l A' c' l _ w h1 h4 k1 k4 hk).mono ?_
  rintro e w' ⟨rfl, hd⟩
  exact ⟨rfl, by first | exact hd | exact hd.below⟩
/-- One change of a row of them. -/
theorem ch_at {w : World} {A : Option Addr} {n : Nat} {l : List Ch} (h : Kd.C k51 w A n (l.map toS)) (hn : n = l.length) (j : Nat) (hj : j < n) (p : Ch) (hp : l[j]? = some p) : ∃ ad, A = some ad ∧ w.cell? (ad.add (j * 2)) = some (.int .i64 (p.1.val : Int)) ∧ w.cell? ⟨(ad.add (j * 2)).block, (ad.add (j * 2)).off + 1, none⟩ = some (.int .u64 p.2) := by
  obtain ⟨ad, e, x0, x1⟩ := at_T51 h (j : Int) (by omega) (by omega)
  have hr : yT (l.map toS) (j : Int) = toS p := by
    unfold yT
    rw [Int.toNat_natCast, List.getD_eq_getElem?_getD, List.getElem?_map, hp]
    rfl
  rw [hr] at x0 x1
  exact ⟨ad, e, x0, x1⟩
structure ChAt (w : World) (L : List Nat) (ad : Addr) (j : Nat) (k v : Int) : Prop where
  k : w.cell? (ad.add (j * 2)) = some (.int .i64 k)
  v : w.cell? ⟨(ad.add (j * 2)).block, (ad.add (j * 2)).off + 1, none⟩ = some (.int .u64 v)
  off : ad.block ∉ L
theorem ChAt.turn {w w' : World} {L : List Nat} {ad : Addr} {j : Nat} {k v : Int} (h : ChAt w L ad j k v) (t : Turn L w w') : ChAt w' L ad j k v :=
  by
  have e : (ad.add (j * 2)).block = ad.block := by unfold Addr.add; split <;> rfl
  exact ⟨cell_turn t h.k (by rw [e]; exact h.off), cell_turn t h.v (by show (ad.add (j * 2)).block ∉ L; rw [e]; exact h.off), h.off⟩
theorem ch_of {w : World} {A : Option Addr} {l : List Ch} {V : VS} {S : MS} {L : List Nat} {ad : Addr} (h : Kd.C k51 w A l.length (l.map toS)) (hl : l.map toP = V.changes S) (hA : A = some ad) (off : ad.block ∉ L) (i : Nat) (hi : i < l.length) : ∃ k v, (V.changes S)[i]? = some (k, v) ∧ ChAt w L ad i k v := by
  obtain ⟨ad', e, x0, x1⟩ := ch_at h rfl i hi l[i] (List.getElem?_eq_getElem hi)
  obtain rfl : ad = ad' := by rw [hA] at e; exact Option.some.inj e
  refine ⟨_, _, ?_, x0, x1, off⟩
  rw [← hl, List.getElem?_map, List.getElem?_eq_getElem hi]
  rfl
theorem sorted_at {m : List (Int × Int)} (hs : Sorted m) {i j : Nat} {a b : Int × Int} (h1 : m[i]? = some a) (h2 : m[j]? = some b) (hij : i < j) : a.1 < b.1 := by
  obtain ⟨hi, rfl⟩ := List.getElem?_eq_some_iff.1 h1
  obtain ⟨hj, rfl⟩ := List.getElem?_eq_some_iff.1 h2
  exact List.pairwise_iff_getElem.1 hs i j hi hj hij
set_option maxHeartbeats 16000000 in
set_option maxRecDepth 100000 in
theorem ViewMakes_calls (w : World) (A0 : Option Addr) (c0 : Nat) (sp : List S51) (A1 : Option Addr) (c1 : Nat) (sc : List S47) (hr0 : Kd.C k51 w A0 sp.length sp) (hc0 : sp.length ≤ c0) (hs : ∀ x ∈ sp, okw x.f1) (hr1 : Kd.C k47 w A1 sc.length sc) (hc1 : sc.length ≤ c1) (hs1 : ∀ x ∈ sc, opIn x) :
    Calls Try.prog 4 #[.slice A0 sp.length c0, .slice A1 sc.length c1] w fun e w' => e = .returned (.bool true) ∧ Below w.heap.size w w' := by
  obtain ⟨m, hm⟩ : ∃ m, min sc.length 60 = m := ⟨_, rfl⟩
  have HR0 := ze.mk hr0
  have HC0 := ze.mk hc0
  have HS := ze.mk hs
  have HR1 := ze.mk hr1
  have HC1 := ze.mk hc1
  have HS1 := ze.mk hs1
  have HM := ze.mk hm
  have hm60 : m ≤ 60 := by omega
  clear hr0 hc0 hs hr1 hc1 hs1 hm
  go_enter Try.func4, Try.ntmps4
  go_wp2_with (first
    | (go_at_call 6; refine (lives_calls _).mono ?_; rintro e w1 ⟨rfl, hb⟩; have B1 := ze.mk hb; clear hb)
    | (go_at_call 8; refine (image_sp w1 A0 c0 sp (Kd.yh HR0.o B1.o) HC0.o HS.o).mono ?_; rintro e w2 ⟨A, cap, l, rfl, hC, hc, hl, ho, hb⟩; have C2 := ze.mk hC; have K2 := ze.mk hc; have L2 := ze.mk hl; have O2 := ze.mk ho; have B2 := ze.mk (B1.o.trans (hb.mono B1.o.size)); clear hC hc hl ho hb)
    | (go_at_call 7; refine (Load_as 2824 L2.o C2.o K2.o O2.o).mono ?_; rintro e w3 ⟨f, rfl, f1, f2, f3⟩; have M3 := ze.mk f1; have C3 := ze.mk (Kd.yh C2.o f3); have B3 := ze.mk (B2.o.trans (f3.mono B2.o.size)); have FA := ze.mk (fun b hb => Nat.le_trans B2.o.size (f2 b hb)); clear f1 f2 f3)
    | (go_at_call 9; refine (New_as M3.o (by rw [ZG, L2.o]; omega)).mono ?_; rintro e w4 ⟨q, rfl, f1, f2, f3, f4, f5⟩; have V4 := ze.mk f1; have M4 := ze.mk f2; have QA := ze.mk f4; have C4 := ze.mk (Kd.yh C3.o f5); have B4 := ze.mk (B3.o.trans (f5.mono B3.o.size)); clear f1 f2 f3 f4 f5)
    | (go_at_call 16; refine (Rf.YX (w0 := w) B4.o C4.o L2.o O2.o).mono ?_; rintro e w5 ⟨r, R, rfl, g1, g2, g3⟩;
       have T5 := ze.mk (show Trio w w5 q f r newV (loadS l) R from ⟨B4.o.trans (g3.mono B4.o.size), V4.o.below g3, M4.o.below g3, g1, fun b hb => Nat.le_trans B3.o.size (QA.o b hb), fun b hb hm => by { have h1 := M3.o.lts b hb; have h2 := QA.o b hm; omega }, fun b hb hm => by { have h1 := M4.o.lts b hb; have h2 := g2 b hm; omega }, fun b hb hm => by { have h1 := V4.o.lts b hb; have h2 := g2 b hm; omega }⟩); clear g1 g2 g3 C2 C3 C4 V4 M3 M4)
    | (go_at_call 17; refine (early_calls _ A1 sc.length c1 HC1.o m HM.o).mono ?_; rintro e w6 ⟨rfl, hb⟩; have T6 := ze.mk (T5.o.step hb); clear hb))
  go_loopw [9] (fun x wr => ∃ j : Nat, j ≤ m ∧ x = .int .i64 (j : Int) ∧ ∃ q' r' V' R', Acc w w6 wr q f r newV (loadS l) q' r' V' R') (fun x _ => m - (intOf x).toNat)
  case atStart => exact ⟨0, Nat.zero_le _, rfl, q, r, newV, R, T6.o.acc⟩
  case round =>
    obtain ⟨j, hj, rfl, q', r', V', R', hA⟩ := hrel
    have AA := ze.mk hA
    clear hA
    by_cases hlt : j < m
    · have gl : decide ((j : Int) < (m : Int)) = true := decide_eq_true (by omega)
      obtain ⟨ad, o, hAd, hO, hX⟩ := op_at HR1.o rfl AA.o.trio.below j (by have := HM.o; omega) HS1.o
      have OO := ze.mk hO
      subst hAd
      obtain ⟨y0, y1, y2, y3, y4, y5, y6, y7, y8, y9, y10, y11, y12, y13, y14⟩ := hX
      have JM := ze.mk hlt
      clear hO hj
      go_wp2_with (go_at_call 18; refine (step_at AA.o o OO.o).mono ?_; rintro e w7 ⟨b, q2, r2, V2, R2, rfl, hA⟩; have A7 := ze.mk hA; clear hA)
      go_roundw
      case rel => exact ⟨j + 1, JM.o, by go_num, q2, r2, V2, R2, A7.o⟩
      case measure =>
        have h1 := JM.o
        simp [intOf]
        omega
    · clear hj
      go_wp2
      clear hlt
      obtain ⟨w7, rfl⟩ : ∃ w7, w7 = wr := ⟨_, rfl⟩
      go_loopw [10, 11] (fun y x ws => ∃ (i : Nat) (y' : Value), y' = y ∧ i ≤ 2824 ∧ x = .int .i64 (i : Int) ∧ Kd.R (Kd.int .u64) 22 ws w7.heap.size (fun _ => True) y' (V'.reads (loadS l) 0 i) ∧ Below w7.heap.size w7 ws) (fun _ x _ => 2824 - (intOf x).toNat)
      case atStart => exact ⟨0, _, rfl, by omega, rfl, Kd.R_nil _ _ _ _ _, Below.refl _ _⟩
      case round =>
        obtain ⟨i, y', rfl, hi, rfl, hR, hb⟩ := hrel
        have RR := ze.mk hR
        have BB := ze.mk hb
        have VV := ze.mk (AA.o.trio.view.below hb)
        have MM := ze.mk (AA.o.trio.mem.below hb)
        clear hR hb
        by_cases hlt : i < 2824
        · have gi : decide ((i : Int) < 2824) = true := decide_eq_true (by omega)
          obtain ⟨z, hz⟩ : ∃ z, V'.read (loadS l) (i : Int) = z := ⟨_, rfl⟩
          have HZ := ze.mk hz
          have HI := ze.mk hlt
          clear hi hz
          go_wp2_with (first
            | (go_at_call 19; refine (vRead_at AA.o.qp VV.o MM.o (i : Int) (by have := HI.o; unfold oki; omega) z HZ.o).mono ?_; rintro e w8 ⟨rfl, rfl⟩)
            | ((with_reducible refine zC (N := 50) rfl ?_); refine Kd.Yp (Kd.int .u64) (w0 := w7) w7.heap.size rfl (.tmp 45) (.tmp 49) 26 22 (.int .u64 0) 8 rfl Try.underlying26 Yg rfl (by decide) (by omega) y' (V'.reads (loadS l) 0 i) z [.int .u64 z] (fun _ => True) (fun _ => False) rfl rfl rfl (fun _ hk => hk.elim) (fun _ _ => trivial) RR.o BB.o BB.o.size (by have := HI.o; rw [VS.yx]; omega) ?_; intro y2 w9 hO hb9 hg9 hn9; have R9 := ze.mk hO; have B9 := ze.mk hb9; clear hO hb9 hg9 hn9))
          go_roundw
          case rel => exact ⟨i + 1, _, rfl, HI.o, by go_num, by rw [reads_succ, HZ.o]; exact R9.o, B9.o⟩
          case measure => have h1 := HI.o; simp [intOf]; omega
        · obtain rfl : i = 2824 := by omega
          clear hi hlt
          obtain ⟨Ay, cy, ey⟩ := Kd.zY RR.o
          rw [VS.yx] at ey
          subst ey
          have Y7 := ze.mk (ZK RR.o)
          have RY := RR
          have D8 := ze.mk (AA.o.trio.below.trans (BB.o.mono AA.o.trio.below.size))
          clear RR
          go_wp2_with (first
            | (go_at_call 20; refine (vChanges_at AA.o.qp VV.o MM.o).mono ?_; rintro e w9 ⟨Ac, cc, lc, rfl, hc, hC, hl, hb, hn⟩; have KC := ze.mk hc; have CC := ze.mk hC; have LC := ze.mk hl; have B9 := ze.mk hb; have NC := ze.mk hn; clear hc hC hl hb hn))
          obtain ⟨w8, rfl⟩ : ∃ w8, w8 = wr := ⟨_, rfl⟩
          have PP := ze.mk (Part.start (V := V') (S0 := loadS l) rfl (by rw [ZG, L2.o]; omega))
          have M9 := ze.mk (MM.o.below B9.o)
          have LL := ze.mk (show lc.length = (V'.changes (loadS l)).length by rw [← LC.o, List.length_map])
          have SO := ze.mk (VV.o.own.sorted mt)
          have OK := ze.mk VV.o.ok
          have OP := ze.mk (AA.o.opn (fun y hy => by cases hy))
          have W8 := ze.mk (show w7.heap.size ≤ w8.heap.size from BB.o.size)
          have FB := ze.mk (show ∀ b ∈ f.list, b < w7.heap.size from AA.o.trio.mem.lts)
          have lcb : lc.length ≤ 2824 := by rw [LL.o]; exact Nat.le_trans (List.length_filter_le _ _) VV.o.own_len
          go_loopw [13] (fun x ws => ∃ i : Nat, i ≤ lc.length ∧ x = .int .i64 (i : Int) ∧ ∃ S', IsMem ws f S' ∧ Part V' (loadS l) S' i ∧ Turn f.list w9 ws) (fun x _ => lc.length - (intOf x).toNat)
          case atStart => exact ⟨0, Nat.zero_le _, rfl, _, M9.o, PP.o, Turn.refl _ _⟩
          case round =>
            obtain ⟨i, hi, rfl, S', hM, hP, hT⟩ := hrel
            have MS := ze.mk hM
            have PS := ze.mk hP
            have TS := ze.mk hT
            clear hM hP hT
            obtain ⟨ws, rfl⟩ : ∃ ws, ws = wr := ⟨_, rfl⟩
            by_cases hlt : i < lc.length
            · obtain ⟨ad, hAd, hga⟩ := NC.o (by omega)
              have hoff : ad.block ∉ f.list := fun hm => by have h1 := FB.o _ hm; have h2 := W8.o; omega
              obtain ⟨k, v, hk, hK⟩ := ch_of CC.o LC.o hAd hoff i hlt
              have hmem := changes_own (List.mem_of_getElem? hk)
              have hko := OK.o.own _ hmem
              obtain ⟨hst, hPn⟩ := PS.o.step SO.o (fun y hy => ⟨(OK.o.own y hy).1, (OK.o.own y hy).2.1⟩) hk
              have KA := ze.mk hK
              have KI := ze.mk (show oki k by have h1 := hko.1; have h2 := hko.2.1; simp only at h1 h2; unfold oki; omega)
              have KV := ze.mk (show okw v from hko.2.2)
              have KO := ze.mk (show PlanF.openB k = true from OP.o _ hmem)
              have KS := ze.mk hst
              have PN := ze.mk hPn
              have HLT := ze.mk hlt
              clear hi hst hPn hko hmem hK
              cases i with
              | zero =>
                subst hAd
                clear hk hga hoff
                go_wp2
                have AI := ze.mk (TS.o.trans (Turn.drew ws _))
                refine ym (fun W => Turn f.list w9 W) (fun i => [11, 19].contains i) (by kernel_rfl) (by kernel_rfl) AI.o ?_
                have MD := ze.mk (MS.o.below (Below.refl _ _).drew)
                generalize ws.drew = wd at AI MD ⊢
                repeat (first
                  | (((first | refine S_off (Zb (b := true) rfl rfl (by rfl)) AI.o ?_ | refine S_off (Zb (b := false) rfl rfl (by rfl)) AI.o ?_ | refine S_off (wanted_undef rfl rfl (by rfl)) AI.o ?_)); go_frame)
                  | ((apply S_val rfl; (first | exact zG rfl | exact zI rfl rfl (by kernel_rfl)); (intro W hW R hR; have z0 : W.cell? ad = some (.int .i64 k) := (by have e := (KA.o.turn hW).k; rw [show ad.add (0 * 2) = ad from add0 ad] at e; exact e); have z1 : W.cell? ⟨ad.block, ad.off + 1, none⟩ = some (.int .u64 v) := (by have e := (KA.o.turn hW).v; rw [show ad.add (0 * 2) = ad from add0 ad] at e; exact e); go_simp; exact hR)); go_frame)
                  | ((refine yC rfl ?_ ?_ (Store_as MD.o k v KI.o KV.o KS.o) ?_; (first | exact zG rfl | exact zI rfl rfl (by kernel_rfl)); (focus (first | (go_simp; done) | (go_simp; rfl)))); rintro e wn ⟨rfl, hm, ht⟩; have n_ := ze.mk (AI.o.trans ht); have MN := ze.mk hm; clear ht hm AI MD; have AI := n_; clear n_; refine ⟨_, rfl, AI.o, ?_⟩; go_frame)
                  | ((refine yC rfl ?_ ?_ (pOpen_as _ k KI.o KO.o) ?_; (first | exact zG rfl | exact zI rfl rfl (by kernel_rfl)); (focus (first | (go_simp; done) | (go_simp; rfl)))); rintro e wn ⟨rfl, hb⟩; have n_ := ze.mk (AI.o.trans (Turn.of_below hb _)); have m_ := ze.mk (MN.o.below hb); clear hb AI MN; have AI := n_; have MN := m_; clear n_ m_; refine ⟨_, rfl, AI.o, ?_⟩; go_frame))
                apply S_nil
                go_wp2
                go_roundw
                case rel => exact ⟨1, HLT.o, by go_num, _, MN.o, PN.o, AI.o⟩
                case measure => have h1 := HLT.o; simp [intOf]; omega
              | succ i =>
                obtain ⟨k2, v2, hk2, hK2⟩ := ch_of CC.o LC.o hAd hoff i (by omega)
                have hlk := sorted_at (changes_sorted SO.o _) hk2 hk (by omega)
                have gk : decide (k ≤ k2) = false := decide_eq_false (by simp only at hlk; omega)
                have KB := ze.mk hK2
                have hlt2 : i < lc.length := by omega
                have e1 : IntKind.i64.wrap (i : Int) = (i : Int) := by simp [IntKind.wrap, IntKind.signed, IntKind.bits]; omega
                subst hAd
                clear hk hga hoff hlk hk2 hK2
                go_wp2
                have AI := ze.mk (TS.o.trans (Turn.drew ws _))
                refine ym (fun W => Turn f.list w9 W) (fun i => [11, 19].contains i) (by kernel_rfl) (by kernel_rfl) AI.o ?_
                have MD := ze.mk (MS.o.below (Below.refl _ _).drew)
                generalize ws.drew = wd at AI MD ⊢
                repeat (first
                  | (((first | refine S_off (Zb (b := true) rfl rfl (by rfl)) AI.o ?_ | refine S_off (Zb (b := false) rfl rfl (by rfl)) AI.o ?_ | refine S_off (wanted_undef rfl rfl (by rfl)) AI.o ?_)); go_frame)
                  | ((apply S_val rfl; (first | exact zG rfl | exact zI rfl rfl (by kernel_rfl)); (intro W hW R hR; have z0 := (KA.o.turn hW).k; have z1 := (KA.o.turn hW).v; have z2 := (KB.o.turn hW).k; go_simp; exact hR)); go_frame)
                  | ((refine yC rfl ?_ ?_ (Store_as MD.o k v KI.o KV.o KS.o) ?_; (first | exact zG rfl | exact zI rfl rfl (by kernel_rfl)); (focus (first | (go_simp; done) | (go_simp; rfl)))); rintro e wn ⟨rfl, hm, ht⟩; have n_ := ze.mk (AI.o.trans ht); have MN := ze.mk hm; clear ht hm AI MD; have AI := n_; clear n_; refine ⟨_, rfl, AI.o, ?_⟩; go_frame)
                  | ((refine yC rfl ?_ ?_ (pOpen_as _ k KI.o KO.o) ?_; (first | exact zG rfl | exact zI rfl rfl (by kernel_rfl)); (focus (first | (go_simp; done) | (go_simp; rfl)))); rintro e wn ⟨rfl, hb⟩; have n_ := ze.mk (AI.o.trans (Turn.of_below hb _)); have m_ := ze.mk (MN.o.below hb); clear hb AI MN; have AI := n_; have MN := m_; clear n_ m_; refine ⟨_, rfl, AI.o, ?_⟩; go_frame))
                apply S_nil
                go_wp2
                go_roundw
                case rel => exact ⟨i + 1 + 1, HLT.o, by go_num, _, MN.o, PN.o, AI.o⟩
                case measure => have h1 := HLT.o; simp [intOf]; omega
            · obtain rfl : i = lc.length := by omega
              clear hi
              have hIL : S'.image.length = 2824 := by rw [_root_.Go.Proofs.Ytkbhilhefnahpaa.Mem.MS.image_len, PS.o.len]
              have hnone := PS.o.none SO.o (by rw [LL.o]; exact Nat.le_refl _)
              have himg := PS.o.image SO.o (by rw [LL.o]; exact Nat.le_refl _)
              have IL := ze.mk hIL
              have NO := ze.mk hnone
              have IM := ze.mk himg
              have T8 := ze.mk ((Turn.of_below B9.o f.list).trans TS.o)
              clear hIL hnone himg
              go_wp2_with (first
                | (go_at_call 24; refine (Image_calls MS.o).mono ?_; rintro e wa ⟨vi, rfl, hR, hb⟩; obtain ⟨Ai, ci, ei⟩ := Kd.zY hR; rw [IL.o] at ei; subst ei; have I1 := ze.mk (ZK hR); have TA := ze.mk (T8.o.trans (Turn.of_below hb _)); have MA := ze.mk (MS.o.below hb); have YA := ze.mk (ZK (R_kept RY.o (T8.o.trans (Turn.of_below hb _)) FB.o)); clear hR hb)
                | (go_at_call 23; refine (SameB_as (l := S'.image) (l' := V'.reads (loadS l) 0 2824) (by have h_ := I1.o.1; rw [IL.o] at h_; exact h_) IL.o (by omega) (by have h_ := I1.o.2; rw [IL.o] at h_; exact h_) (by have h_ := YA.o.1; rw [VS.yx] at h_; exact h_) (VS.yx _ _ _ _) (by have h_ := YA.o.2; rw [VS.yx] at h_; exact h_) IM.o).mono ?_; rintro e wb ⟨rfl, hb⟩; have TB := ze.mk (TA.o.trans (Turn.of_below hb _)); have MB := ze.mk (MA.o.below hb); clear hb)
                | (go_at_call 20; refine (vChanges_at AA.o.qp (VV.o.kept TB.o (fun b hb hm => AA.o.trio.fq b hm hb)) MB.o).mono ?_; rintro e wc ⟨Ad, cd, ld, rfl, hc, hC, hl, hb, hn⟩; rw [NO.o] at hl; obtain rfl : ld = [] := (by simpa using hl); have TC := ze.mk (TB.o.trans (Turn.of_below hb _)); clear hc hC hl hb hn))
              go_ret
              exact ⟨rfl, D8.o.trans (TC.o.below D8.o.size FA.o)⟩
end Go.Proofs.Ytkbhilhefnahpaa.Rf
