/- Two views of one memory don't see what the other one has written. -/
import Derived.Test.YtkbhilhefnahpaaGreatDuoA
import Derived.Test.YtkbhilhefnahpaaGreatLwW
import Derived.Test.YtkbhilhefnahpaaGreatViewS
import Derived.Test.YtkbhilhefnahpaaGreatPrint18
namespace Go.Proofs.YtkbhilhefnahpaaGreat.Rf
open Go Go.RowKit Go.Proofs.YtkbhilhefnahpaaGreat.ML Go.Proofs.YtkbhilhefnahpaaGreat.Mem Go.Proofs.YtkbhilhefnahpaaGreat.Vw Go.Proofs.YtkbhilhefnahpaaGreat.Reg Go.Proofs.YtkbhilhefnahpaaGreat.Print Go.Proofs.YtkbhilhefnahpaaGreatW.PrintWords Go.Proofs.YtkbhilhefnahpaaGreatW.PrintLast Go.Proofs.YtkbhilhefnahpaaGreatW.PrintMore
set_option linter.unusedVariables false
set_option linter.unusedSimpArgs false
theorem OpAt.kept {w w' : World} {a : Addr} {o : OpP} (h : OpAt w a o) (hb : Below w.heap.size w w') : OpAt w' a o :=
 ⟨cell_kept hb h.y0, cell_kept hb h.y1, cell_kept hb h.y2, cell_kept hb h.y3, cell_kept hb h.y4, cell_kept hb h.y5, cell_kept hb h.y6, cell_kept hb h.y7, cell_kept hb h.y8, cell_kept hb h.y9, cell_kept hb h.y10, cell_kept hb h.y11, cell_kept hb h.y12, cell_kept hb h.y13, cell_kept hb h.y14⟩
theorem OpOk.up {w w' : World} {o : OpP} (h : OpOk w o) (hb : Below w.heap.size w w') : OpOk w' o :=
 ⟨h.hi, h.hv, h.hc, Kd.zZ h.L hb, h.Lc, h.Lw, Kd.zZ h.I hb, h.Ic, h.Il, h.Iw⟩
theorem step_of {w0 w : World} {q q1 : Vp} {f : Fp} {r : Rp} {V : VS} {S : MS} {R : RS} (T : Trio w0 w q1 f r V S R) (hp : q1.p = q.p) (o : OpP) (H : OpOk w0 o) : Calls Tryz.prog 9 #[vptr q, rptr r, o.val] w fun e w2 => ∃ (b : Bool) (q2 : Vp) (r2 : Rp) (V2 : VS) (R2 : RS), e = .returned (.bool b) ∧ Acc w0 w w2 q1 f r V S q2 r2 V2 R2 := by
 have e1 : vptr q = vptr q1 := by show Value.pointer _ = Value.pointer _; rw [hp]
 rw [e1]
 exact step_any T o H
theorem C_far {w w' : World} {A : Option Addr} {n : Nat} {l : List S50} {L : List Nat} (h : Kd.C k50 w A n l) (t : Turn L w w') (off : 0 < n → ∃ ad, A = some ad ∧ ad.block ∉ L) : Kd.C k50 w' A n l := by
 obtain ⟨h1, h2, h3⟩ := h
 refine ⟨h1, h2, fun h0 => ?_⟩
 obtain ⟨ad, hA, h4⟩ := h3 h0
 obtain ⟨ad', hA', ho⟩ := off h0
 obtain rfl : ad = ad' := Option.some.inj (hA.symm.trans hA')
 refine ⟨ad, hA, fun j p hj => ?_⟩
 obtain ⟨cs, e2, hK, h5⟩ := h4 j p hj
 obtain rfl := k50_open hK
 refine ⟨_, e2, k50_mk w' p, fun i u hi => cell_turn t (h5 i u hi) ?_⟩
 have e : ∀ n, (ad.add n).block = ad.block := fun n => by unfold Addr.add; split <;> rfl
 rw [e]
 exact ho
theorem toP_inj {a b : List Ch} (h : a.map toP = b.map toP) : a = b := by
 induction a generalizing b with
 | nil =>
  cases b with
  | nil => rfl
  | cons y s => cases h
 | cons x r ih =>
  cases b with
  | nil => cases h
  | cons y s =>
   simp only [List.map_cons, List.cons.injEq] at h
   obtain ⟨h1, h2⟩ := h
   have e1 : (toP x).1 = (toP y).1 := congrArg Prod.fst h1
   have e3 : (x.1.val : Int) = (y.1.val : Int) := e1
   have e2 : (toP x).2 = (toP y).2 := congrArg Prod.snd h1
   rw [ih h2, show x = y from Prod.ext (Fin.ext (by omega)) e2]
theorem same_ev (l : List S50) (hl : l.length ≤ 4096) : ∃ k, escritoirelaw08_same.f k l l = some true := by
 have key : ∀ (d i : Nat), i + d = l.length → Ev (fun k => escritoirelaw08_same.l0 k l l (i : Int)) true := by
  intro d
  induction d with
  | zero =>
   intro i hi
   exact Ev.step (f := fun _ => some true) (fun k => by simp only [escritoirelaw08_same.l0]; rw [if_neg (by omega)]) (Ev.now _)
  | succ d ih =>
   intro i hi
   refine Ev.step (fun k => by simp only [escritoirelaw08_same.l0]; rw [if_pos (by omega), if_pos (by omega), if_pos (by omega), if_neg (by simp)]) ?_
   exact Ev.congr (fun k => by rw [show wrap64 ((i : Int) + 1) = ((i + 1 : Nat) : Int) by unfold wrap64; omega]) (ih (i + 1) (by omega))
 obtain ⟨k, hk⟩ := (key l.length 0 (by omega)).rounds
 refine ⟨k, ?_⟩
 unfold escritoirelaw08_same.f
 rw [if_pos rfl]
 exact hk
theorem same_as {w : World} {A A' : Option Addr} {c c' : Nat} {n n' : Nat} {l l' : List S50} (h : Kd.C k50 w A n l) (hn : n = l.length) (hc : n ≤ c) (h' : Kd.C k50 w A' n' l') (hn' : n' = l'.length) (hc' : n' ≤ c') (e : l = l') (hl : n ≤ 4096) : Calls Tryz.prog 15 #[.slice A n c, .slice A' n' c'] w fun e w' => e = .returned (.bool true) ∧ Below w.heap.size w w' := by
 subst hn hn' e
 obtain ⟨k, hk⟩ := same_ev l hl
 refine (escritoirelaw08_same.calls k A c l A' c' l true w h hc h' hc' hk).mono ?_
 rintro e w' ⟨rfl, hd⟩
 exact ⟨rfl, by first | exact hd | exact hd.below⟩
set_option maxHeartbeats 16000000 in
set_option maxRecDepth 100000 in
theorem ViewApart_calls (w : World) (A0 : Option Addr) (c0 : Nat) (la : List S40) (A1 : Option Addr) (c1 : Nat) (lb : List S40) (pl : Int) (hr0 : Kd.C k40 w A0 la.length la) (hc0 : la.length ≤ c0) (hs0 : ∀ x ∈ la, opIn x) (hr1 : Kd.C k40 w A1 lb.length lb) (hc1 : lb.length ≤ c1) (hs1 : ∀ x ∈ lb, opIn x) (hpl : oki pl) :
  Calls Tryz.prog 3 #[.slice A0 la.length c0, .slice A1 lb.length c1, .int .i64 pl] w fun e w' => e = .returned (.bool true) ∧ Below w.heap.size w w' := by
 obtain ⟨m, hm⟩ : ∃ m, min la.length 60 = m := ⟨_, rfl⟩
 obtain ⟨n, hn⟩ : ∃ n, min lb.length 60 = n := ⟨_, rfl⟩
 have HR0 := ze.mk hr0
 have HC0 := ze.mk hc0
 have HS0 := ze.mk hs0
 have HR1 := ze.mk hr1
 have HC1 := ze.mk hc1
 have HS1 := ze.mk hs1
 have HM := ze.mk hm
 have HN := ze.mk hn
 have HP := ze.mk hpl
 have hm60 : m ≤ 60 := by omega
 have hn60 : n ≤ 60 := by omega
 clear hr0 hc0 hs0 hr1 hc1 hs1 hm hn hpl
 go_enter Tryz.func3, Tryz.ntmps3
 go_wp2_with (first
  | (go_at_call 4; refine (lives_calls _).mono ?_; rintro e w1 ⟨rfl, hb⟩; have B1 := ze.mk hb; clear hb)
  | (go_at_call 5; refine (image_as w1).mono ?_; rintro e w2 ⟨A, cap, rfl, hC, hc, hb⟩; have C2 := ze.mk hC; have K2 := ze.mk hc; have B2 := ze.mk (B1.o.trans (hb.mono B1.o.size)); clear hC hc hb)
  | (go_at_call 6; refine (Load_as 2824 Yd C2.o K2.o img_ok).mono ?_; rintro e w3 ⟨f, rfl, f1, f2, f3⟩; have M3 := ze.mk (show IsMem w3 f S0 from f1); have C3 := ze.mk (Kd.zZ C2.o f3); have B3 := ze.mk (B2.o.trans (f3.mono B2.o.size)); clear f1 f2 f3)
  | (go_at_call 7; refine (New_as M3.o S0_len).mono ?_; rintro e w4 ⟨q, rfl, f1, f2, f3, f4, f5⟩; have DX := ze.mk (show Duo w3 w4 q f newV S0 from ⟨f5, f1, f2, f4, fun b hb hm => by { have h1 := M3.o.lts b hb; have h2 := f4 b hm; omega }⟩); have M4 := ze.mk f2; clear f1 f2 f3 f4 f5 M3)
  | (go_at_call 7; refine (New_as M4.o S0_len).mono ?_; rintro e w5 ⟨p, rfl, f1, f2, f3, f4, f5⟩; have DX5 := ze.mk (DX.o.step f5); have PQ := ze.mk (show ∀ b ∈ p.list, b ∉ q.list from fun b hb hm => by { have h1 := DX.o.view.lts b hm; have h2 := f4 b hb; omega }); have DY5 := ze.mk (show Duo w3 w5 p f newV S0 from ⟨DX.o.below.trans (f5.mono DX.o.below.size), f1, f2, fun b hb => Nat.le_trans DX.o.below.size (f4 b hb), fun b hb hm => by { have h1 := M4.o.lts b hb; have h2 := f4 b hm; omega }⟩); clear f1 f2 f3 f4 f5)
  | (go_at_call 8; refine (early_calls _ A0 la.length c0 HC0.o m HM.o).mono ?_; rintro e w6 ⟨rfl, hb⟩; have DX6 := ze.mk (DX5.o.step hb); have DY6 := ze.mk (DY5.o.step hb); clear hb)
  | (go_at_call 8; refine (early_calls _ A1 lb.length c1 HC1.o n HN.o).mono ?_; rintro e w7 ⟨rfl, hb⟩; have DX7 := ze.mk (DX6.o.step hb); have DY7 := ze.mk (DY6.o.step hb); clear hb))
 go_loopw [11] (fun x wr => ∃ j : Nat, j ≤ m ∧ x = .int .i64 (j : Int) ∧ ∃ q' V', Run w3 w7 wr q f newV S0 q' V') (fun x _ => m - (intOf x).toNat)
 case atStart => exact ⟨0, Nat.zero_le _, rfl, q, newV, DX7.o.run⟩
 case round =>
  obtain ⟨j, hj, rfl, q', V', hA⟩ := hrel
  have RN := ze.mk hA
  clear hA
  by_cases hlt : j < m
  ·obtain ⟨ad, o, hAd, hO, hX⟩ := op_at HR0.o rfl (Below.refl _ _) j (by have := HM.o; omega) HS0.o
   have OO := ze.mk (hO.up B3.o)
   have OX := ze.mk hX
   subst hAd
   clear hO hj hX
   go_wp2
   have RD := ze.mk (RN.o.step (Below.refl _ _).drew)
   refine yj (fun W => Below w.heap.size w W) (fun i => [2, 7].contains i) (by kernel_rfl) (by kernel_rfl) (B3.o.trans (RD.o.duo.below.mono B3.o.size)) ?_
   generalize wr.drew = wd at RD ⊢
   repeat (first
    | ((apply S_val rfl; (first | exact zG rfl | exact zI rfl rfl (by kernel_rfl)); (intro W hW R hR; obtain ⟨z0, z1, z2, z3, z4, z5, z6, z7, z8, z9, z10, z11, z12, z13, z14⟩ := OX.o.kept hW; go_simp; exact hR)); go_frame)
    | ((refine yC rfl ?_ ?_ (Rf.YJ (w0 := w3) (c := cap) RD.o.duo.below (Kd.zZ C3.o RD.o.duo.below) Yd img_ok) ?_; (first | exact zG rfl | exact zI rfl rfl (by kernel_rfl)); (focus (first | (go_simp; done) | (go_simp; rfl)))); rintro e wn ⟨r, R, rfl, g1, g2, g3⟩; have TN := ze.mk (RD.o.ref g1 g3 g2); have G2 := ze.mk g2; have G3 := ze.mk g3; clear g1 g2 g3; refine ⟨_, rfl, B3.o.trans (TN.o.below.mono B3.o.size), ?_⟩; go_frame)
    | ((refine yC rfl ?_ ?_ (step_of TN.o RD.o.qp o OO.o) ?_; (first | exact zG rfl | exact zI rfl rfl (by kernel_rfl)); (focus (first | (go_simp; done) | (go_simp; rfl)))); rintro e wm ⟨bb, q2, r2, V2, R2, rfl, hA⟩; have RM := ze.mk (RD.o.next G3.o G2.o hA); clear hA; refine ⟨_, rfl, B3.o.trans (RM.o.duo.below.mono B3.o.size), ?_⟩; go_frame))
   apply S_nil
   go_wp2
   go_roundw
   case rel => exact ⟨j + 1, hlt, by go_num, q2, V2, RM.o⟩
   case measure =>
    simp [intOf]
    omega
  ·clear hj
   have VX := ze.mk RN.o.duo.view
   have MX := ze.mk RN.o.duo.mem
   have VY := ze.mk (RN.o.other DY7.o.view PQ.o)
   have RD0 := ze.mk (show newV.read S0 pl = S0.read pl from newV_read S0 pl)
   obtain ⟨z, hz⟩ : ∃ z, S0.read pl = z := ⟨_, rfl⟩
   have HZ := ze.mk hz
   have HZ2 := ze.mk (show newV.read S0 pl = z from RD0.o.trans hz)
   clear hz
   go_wp2_with (first
    | (go_at_call 11; refine (Vw.Read_as VY.o MX.o pl HP.o z HZ2.o).mono ?_; rintro e w8 ⟨rfl, rfl⟩)
    | (go_at_call 12; refine (ZN MX.o pl HP.o z HZ.o).mono ?_; rintro e w8 ⟨rfl, rfl⟩)
    | (go_at_call 13; refine (YK VY.o MX.o).mono ?_; rintro e w9 ⟨Ae, ce, le, rfl, hc, hC, hl, hb⟩; obtain rfl : le = [] := List.map_eq_nil_iff.1 (hl.trans rfl); have B9 := ze.mk hb; have VX9 := ze.mk (VX.o.below hb); have MX9 := ze.mk (MX.o.below hb); have VY9 := ze.mk (VY.o.below hb); clear hc hC hl hb VX MX)
    | (go_at_call 14; refine (Seen_calls VY9.o (by decide)).mono ?_; rintro e wa ⟨ve, rfl, hR, hb⟩; obtain ⟨Ab, cb, eb⟩ := Kd.yc hR; subst eb; have Ba := ze.mk (B9.o.trans (hb.mono B9.o.size)); have VXa := ze.mk (VX9.o.below hb); have MXa := ze.mk (MX9.o.below hb); clear hR hb)
    | (go_at_call 13; refine (vChanges_at RN.o.qp VXa.o MXa.o).mono ?_; rintro e wb ⟨Ac, cc, lc, rfl, hc, hC, hl, hb, hn⟩; have Bb := ze.mk (Ba.o.trans (hb.mono Ba.o.size)); have KC := ze.mk hc; have CC := ze.mk hC; have LC := ze.mk hl; have NC := ze.mk hn; clear hc hC hl hb hn))
   clear hlt
   obtain ⟨w8, rfl⟩ : ∃ w8, w8 = wr := ⟨_, rfl⟩
   have RX := ze.mk (RN.o.step Bb.o)
   have DYb := ze.mk (show Duo w3 wb p f newV S0 from ⟨RX.o.duo.below, RX.o.other DY7.o.view PQ.o, RX.o.duo.mem, DY7.o.qage, DY7.o.fq⟩)
   have QP := ze.mk (show ∀ b ∈ q'.list, b ∉ p.list from fun b hb hm => RX.o.apart DY7.o.view.lts PQ.o b hm hb)
   have lcb : lc.length ≤ 2824 := by
    have h1 := congrArg List.length LC.o
    rw [List.length_map] at h1
    rw [h1]
    exact Nat.le_trans (List.length_filter_le _ _) RX.o.duo.view.own_len
   have CN := ze.mk (show 0 < lc.length → ∃ ad, Ac = some ad ∧ ad.block ∉ p.list from fun h0 => by
    obtain ⟨ad, h1, h2⟩ := NC.o h0
    refine ⟨ad, h1, fun hm => ?_⟩
    have h3 := DY7.o.view.lts _ hm
    have h4 := RN.o.turn.size
    have h5 := Ba.o.size
    omega)
   go_loopw [13] (fun x ws => ∃ j : Nat, j ≤ n ∧ x = .int .i64 (j : Int) ∧ ∃ p' U', Run w3 wb ws p f newV S0 p' U') (fun x _ => n - (intOf x).toNat)
   case atStart => exact ⟨0, Nat.zero_le _, rfl, p, newV, DYb.o.run⟩
   case round =>
    obtain ⟨i, hi, rfl, p', U', hA⟩ := hrel
    have RP := ze.mk hA
    clear hA
    by_cases hlt : i < n
    ·obtain ⟨ad, o, hAd, hO, hX⟩ := op_at HR1.o rfl (Below.refl _ _) i (by have := HN.o; omega) HS1.o
     have OO := ze.mk (hO.up B3.o)
     have OX := ze.mk hX
     subst hAd
     clear hO hi hX
     go_wp2
     have RD := ze.mk (RP.o.step (Below.refl _ _).drew)
     refine yj (fun W => Below w.heap.size w W) (fun i => [2, 7].contains i) (by kernel_rfl) (by kernel_rfl) (B3.o.trans (RD.o.duo.below.mono B3.o.size)) ?_
     generalize wr.drew = wd at RD ⊢
     repeat (first
      | ((apply S_val rfl; (first | exact zG rfl | exact zI rfl rfl (by kernel_rfl)); (intro W hW R hR; obtain ⟨z0, z1, z2, z3, z4, z5, z6, z7, z8, z9, z10, z11, z12, z13, z14⟩ := OX.o.kept hW; go_simp; exact hR)); go_frame)
      | ((refine yC rfl ?_ ?_ (Rf.YJ (w0 := w3) (c := cap) RD.o.duo.below (Kd.zZ C3.o RD.o.duo.below) Yd img_ok) ?_; (first | exact zG rfl | exact zI rfl rfl (by kernel_rfl)); (focus (first | (go_simp; done) | (go_simp; rfl)))); rintro e wn ⟨r, R, rfl, g1, g2, g3⟩; have TN := ze.mk (RD.o.ref g1 g3 g2); have G2 := ze.mk g2; have G3 := ze.mk g3; clear g1 g2 g3; refine ⟨_, rfl, B3.o.trans (TN.o.below.mono B3.o.size), ?_⟩; go_frame)
      | ((refine yC rfl ?_ ?_ (step_of TN.o RD.o.qp o OO.o) ?_; (first | exact zG rfl | exact zI rfl rfl (by kernel_rfl)); (focus (first | (go_simp; done) | (go_simp; rfl)))); rintro e wm ⟨bb, q2, r2, V2, R2, rfl, hA⟩; have RM := ze.mk (RD.o.next G3.o G2.o hA); clear hA; refine ⟨_, rfl, B3.o.trans (RM.o.duo.below.mono B3.o.size), ?_⟩; go_frame))
     apply S_nil
     go_wp2
     go_roundw
     case rel => exact ⟨i + 1, hlt, by go_num, q2, V2, RM.o⟩
     case measure =>
      simp [intOf]
      omega
    ·clear hi
     have VZ := ze.mk (RP.o.other RX.o.duo.view QP.o)
     have CZ := ze.mk (C_far CC.o RP.o.turn CN.o)
     go_wp2_with (first
      | (go_at_call 13; refine (vChanges_at RX.o.qp VZ.o RP.o.duo.mem).mono ?_; rintro e wd ⟨Ad, cd, ld, rfl, hc, hC, hl, hb, hn⟩; obtain rfl : lc = ld := toP_inj (LC.o.trans hl.symm); have KD := ze.mk hc; have CD := ze.mk hC; have CZd := ze.mk (Kd.zZ CZ.o hb); have Dd := ze.mk (RP.o.duo.below.trans (hb.mono RP.o.duo.below.size)); clear hc hC hl hb hn)
      | (go_at_call 15; refine (same_as CZd.o (by rw [List.length_map]) KC.o CD.o (by rw [List.length_map]) KD.o rfl (by omega)).mono ?_; rintro e we ⟨rfl, hb⟩; have De := ze.mk (Dd.o.trans (hb.mono Dd.o.size)); clear hb))
     go_ret
     exact ⟨rfl, B3.o.trans (De.o.mono B3.o.size)⟩
end Go.Proofs.YtkbhilhefnahpaaGreat.Rf
