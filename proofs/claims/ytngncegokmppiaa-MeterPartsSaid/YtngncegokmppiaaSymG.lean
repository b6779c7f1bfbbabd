/- Up to sixty numbers in order: the walk. -/
import Derived.Test.YtngncegokmppiaaSymF
namespace Go.Proofs.Ytngncegokmppiaa.Flo
open Go Go.RowKit Go.Shelf Go.Lib Go.Sort Go.Proofs.YtngncegokmppiaaW.PrintWords Go.Proofs.YtngncegokmppiaaW.PrintLast Go.Proofs.YtngncegokmppiaaW.PrintMore
set_option linter.unusedVariables false
set_option linter.unusedSimpArgs false
def seg (l : List Nat) (a b : Nat) : List Nat := (l.take b).drop a
theorem seg_split (l : List Nat) {a b : Nat} (h : a ≤ b) : l = l.take a ++ seg l a b ++ l.drop b := by
  unfold seg
  have e : (l.take b).take a ++ (l.take b).drop a = l.take b := List.take_append_drop _ _
  rw [List.take_take, Nat.min_eq_left h] at e
  rw [e, List.take_append_drop]
theorem seg_len (l : List Nat) (a b : Nat) : (seg l a b).length = min b l.length - a := by simp [seg]
theorem seg_nil (l : List Nat) (a b : Nat) (h : l.length ≤ a) : seg l a b = [] := List.eq_nil_of_length_eq_zero (by rw [seg_len]; omega)
theorem seg_other {P X Z Q : List Nat} (hl : Z.length = X.length) {a b : Nat} (h : b ≤ P.length ∨ P.length + X.length ≤ a) : seg (P ++ Z ++ Q) a b = seg (P ++ X ++ Q) a b := by
  unfold seg
  refine List.ext_getElem? fun i => ?_
  rw [List.getElem?_drop, List.getElem?_drop, List.getElem?_take, List.getElem?_take]
  by_cases hi : a + i < b
  · rw [if_pos hi, if_pos hi]
    rcases h with h | h
    · rw [List.append_assoc, List.append_assoc, List.getElem?_append_left (by omega), List.getElem?_append_left (by omega)]
    · rw [List.getElem?_append_right (by simp; omega), List.getElem?_append_right (by simp; omega)]
      congr 1
      simp; omega
  · rw [if_neg hi, if_neg hi]
theorem seg_self {P Z Q : List Nat} {a b : Nat} (ha : P.length = a) (hb : a + Z.length = b ∨ (Q = [] ∧ a + Z.length ≤ b)) : seg (P ++ Z ++ Q) a b = Z := by
  unfold seg
  rcases hb with hb | ⟨rfl, hb⟩
  · rw [List.take_left' (by simp; omega), List.drop_left' ha]
  · rw [List.append_nil, List.take_of_length_le (by simp; omega), List.drop_left' ha]
theorem srt_seg_nil {l : List Nat} {a b : Nat} (h : l.length ≤ a) : Srt (seg l a b) := by rw [seg_nil l a b h]; exact srt_nil
theorem perm_mid {P X Z Q : List Nat} (h : Z.Perm X) : (P ++ Z ++ Q).Perm (P ++ X ++ Q) := (List.Perm.append_left P h).append_right Q
theorem ins_as {w : World} {base g cap : Nat} {l : List Nat} (N a b : Nat) (h : FR w base g cap l) (hN : l.length = N) (hab : a ≤ b) (hb : b ≤ N) (h0 : 0 < N) (hl : N ≤ 4096) :
    Calls Try.prog 49 #[.slice (some ⟨g, 0, none⟩) N cap, .int .i64 a, .int .i64 b, .func (.func 11) #[] #[]] w fun e w' => e = .returned (.tuple #[]) ∧ ∃ Z, Srt Z ∧ Z.Perm (seg l a b) ∧ Z.length = b - a ∧ FR w' base g cap (l.take a ++ Z ++ l.drop b) ∧ RowKit.Below base w w' := by
  have e := seg_split l hab
  refine (ins_part (l.take a) (seg l a b) (l.drop b) N a b (h.as e) (by rw [← e]; exact hN) (by simp; omega) (by rw [seg_len]; omega) h0 hl).mono ?_
  rintro e w' ⟨rfl, Z, h1, h2, h3, h4⟩
  exact ⟨rfl, Z, h1, h2, by rw [h2.length_eq, seg_len]; omega, h3, h4⟩
theorem sym_as {w : World} {base g cap : Nat} {l : List Nat} (N a m b : Nat) (h : FR w base g cap l) (hN : l.length = N) (ham : a < m) (hmb : m < b) (hb : b ≤ N) (hl : N ≤ 4096) (h1 : Srt (seg l a m)) (h2 : Srt (seg l m b)) :
    Calls Try.prog 50 #[.slice (some ⟨g, 0, none⟩) N cap, .int .i64 a, .int .i64 m, .int .i64 b, .func (.func 11) #[] #[]] w fun e w' => e = .returned (.tuple #[]) ∧ ∃ Z, Srt Z ∧ Z.Perm (seg l a b) ∧ Z.length = b - a ∧ FR w' base g cap (l.take a ++ Z ++ l.drop b) ∧ RowKit.Below base w w' := by
  have e := seg_split l (show a ≤ b by omega)
  have e2 : seg l a b = seg l a m ++ seg l m b := by
    unfold seg
    have h_ : l.take b = l.take m ++ (l.take b).drop m := by
      have q : (l.take b).take m ++ (l.take b).drop m = l.take b := List.take_append_drop _ _
      rw [List.take_take, Nat.min_eq_left (by omega)] at q
      exact q.symm
    conv => lhs; rw [h_]
    rw [List.drop_append_of_le_length (by simp; omega)]
  have e3 : l = l.take a ++ seg l a m ++ seg l m b ++ l.drop b := by rw [List.append_assoc (l.take a), ← e2]; exact e
  refine (symM_calls (b - a) (l.take a) (seg l a m) (seg l m b) (l.drop b) N a m b (h.as e3) (by rw [← e3]; exact hN) (by simp; omega) (by rw [seg_len]; omega) (by rw [seg_len]; omega) (by rw [seg_len]; omega) (by rw [seg_len]; omega) h1 h2 (by rw [seg_len, seg_len]; omega) hl).mono ?_
  rintro e w' ⟨rfl, Z, h1, h2, h3, h4⟩
  rw [← e2] at h2
  exact ⟨rfl, Z, h1, h2, by rw [h2.length_eq, seg_len]; omega, h3, h4⟩
/-- What one part put in order leaves. -/
theorem part_seg {l Z : List Nat} {a b : Nat} (hab : a ≤ b) (hb : b ≤ l.length) (hz : Z.length = b - a) {p q : Nat} (h : q ≤ a ∨ b ≤ p) : seg (l.take a ++ Z ++ l.drop b) p q = seg l p q := by
  conv => rhs; rw [seg_split l hab]
  refine seg_other (by rw [seg_len]; omega) ?_
  rw [seg_len, List.length_take]
  omega
theorem part_self {l Z : List Nat} {a b : Nat} (hab : a ≤ b) (hb : b ≤ l.length) (hz : Z.length = b - a) {q : Nat} (h : q = b ∨ (b = l.length ∧ b ≤ q)) : seg (l.take a ++ Z ++ l.drop b) a q = Z := by
  refine seg_self (by simp; omega) ?_
  rcases h with rfl | ⟨h1, h2⟩
  · left; omega
  · right; exact ⟨List.drop_of_length_le (by omega), by omega⟩
theorem part_len {l Z : List Nat} {a b : Nat} (hab : a ≤ b) (hb : b ≤ l.length) (hz : Z.length = b - a) : (l.take a ++ Z ++ l.drop b).length = l.length := by simp; omega
theorem part_perm {l Z : List Nat} {a b : Nat} (hab : a ≤ b) (h : Z.Perm (seg l a b)) : (l.take a ++ Z ++ l.drop b).Perm l := by
  have e := seg_split l hab
  conv => rhs; rw [e]
  exact perm_mid h
theorem seg_all {l : List Nat} {b : Nat} (h : l.length ≤ b) : seg l 0 b = l := by
  unfold seg
  rw [List.drop_zero, List.take_of_length_le h]
theorem srt_first (w' : World) {base g cap N k : Nat} {l l' Z : List Nat} (hk : 20 * k + 20 ≤ N) (hN : N ≤ 60) (hl : l'.length = N) (hp : l'.Perm l) (h1 : 1 ≤ k → Srt (seg l' 0 20)) (h2 : 2 ≤ k → Srt (seg l' 20 40)) (h3 : 3 ≤ k → Srt (seg l' 40 60)) (hz1 : Srt Z) (hz2 : Z.Perm (seg l' (20 * k) (20 * k + 20))) (hz3 : Z.length = 20 * k + 20 - 20 * k) :
    ∃ l2 : List Nat, l2 = l'.take (20 * k) ++ Z ++ l'.drop (20 * k + 20) ∧ l2.length = N ∧ l2.Perm l ∧ (1 ≤ k + 1 → Srt (seg l2 0 20)) ∧ (2 ≤ k + 1 → Srt (seg l2 20 40)) ∧ (3 ≤ k + 1 → Srt (seg l2 40 60)) := by
  have hlen := part_len (l := l') (Z := Z) (a := 20 * k) (b := 20 * k + 20) (by omega) (by omega) hz3
  refine ⟨_, rfl, by omega, (part_perm (by omega) hz2).trans hp, fun _ => ?_, fun _ => ?_, fun _ => ?_⟩
  · rcases Nat.eq_zero_or_pos k with hk0 | hk0
    · subst hk0
      rw [part_self (by omega) (by omega) hz3 (.inl rfl)]; exact hz1
    · rw [part_seg (by omega) (by omega) hz3 (by omega)]; exact h1 hk0
  · by_cases hk1 : k = 1
    · subst hk1
      rw [part_self (by omega) (by omega) hz3 (.inl rfl)]; exact hz1
    · rw [part_seg (by omega) (by omega) hz3 (by omega)]; exact h2 (by omega)
  · by_cases hk1 : k = 2
    · subst hk1
      rw [part_self (by omega) (by omega) hz3 (.inl rfl)]; exact hz1
    · rw [part_seg (by omega) (by omega) hz3 (by omega)]; exact h3 (by omega)
theorem srt_last {N k : Nat} {l l' Z : List Nat} (hk : 20 * k ≤ N) (hk2 : N < 20 * k + 20) (hN : N ≤ 60) (hl : l'.length = N) (hp : l'.Perm l) (h1 : 1 ≤ k → Srt (seg l' 0 20)) (h2 : 2 ≤ k → Srt (seg l' 20 40)) (h3 : 3 ≤ k → Srt (seg l' 40 60)) (hz1 : Srt Z) (hz2 : Z.Perm (seg l' (20 * k) N)) (hz3 : Z.length = N - 20 * k) :
    ∃ l2 : List Nat, l2 = l'.take (20 * k) ++ Z ++ l'.drop N ∧ l2.length = N ∧ l2.Perm l ∧ Srt (seg l2 0 20) ∧ Srt (seg l2 20 40) ∧ Srt (seg l2 40 60) := by
  have hlen := part_len (l := l') (Z := Z) (a := 20 * k) (b := N) (by omega) (by omega) hz3
  have he : ∀ p, N ≤ p → ∀ q, Srt (seg (l'.take (20 * k) ++ Z ++ l'.drop N) p q) := fun p hp q => srt_seg_nil (by omega)
  refine ⟨_, rfl, by omega, (part_perm (by omega) hz2).trans hp, ?_, ?_, ?_⟩
  · rcases Nat.eq_zero_or_pos k with hk0 | hk0
    · subst hk0
      rw [part_self (by omega) (by omega) hz3 (by omega)]; exact hz1
    · rw [part_seg (by omega) (by omega) hz3 (by omega)]; exact h1 hk0
  · rcases Nat.lt_trichotomy k 1 with hk1 | hk1 | hk1
    · exact he _ (by omega) _
    · subst hk1
      rw [part_self (by omega) (by omega) hz3 (by omega)]; exact hz1
    · rw [part_seg (by omega) (by omega) hz3 (by omega)]; exact h2 (by omega)
  · rcases Nat.lt_trichotomy k 2 with hk1 | hk1 | hk1
    · exact he _ (by omega) _
    · subst hk1
      rw [part_self (by omega) (by omega) hz3 (by omega)]; exact hz1
    · rw [part_seg (by omega) (by omega) hz3 (by omega)]; exact h3 (by omega)
set_option maxHeartbeats 4000000 in
set_option maxRecDepth 100000 in
theorem stable60 {w : World} {base g cap : Nat} {l : List Nat} (N : Nat) (h : FR w base g cap l) (hN : l.length = N) (h0 : 0 < N) (hl : N ≤ 60) :
    Calls Try.prog 48 #[.slice (some ⟨g, 0, none⟩) N cap, .int .i64 (N : Int), .func (.func 11) #[] #[]] w fun e w' => e = .returned (.tuple #[]) ∧ ∃ Z, Srt Z ∧ Z.Perm l ∧ FR w' base g cap Z ∧ RowKit.Below base w w' := by
  have H := Aside0.mk h
  have HN := Aside0.mk hN
  clear h hN
  go_enter Try.func48, Try.ntmps48
  go_wp2
  go_loopw [7, 8] (fun x y wr => ∃ (k a b : Nat) (l' : List Nat), x = .int .i64 (a : Int) ∧ y = .int .i64 (b : Int) ∧ 20 * k = a ∧ 20 * k + 20 = b ∧ a ≤ N ∧ l'.length = N ∧ l'.Perm l ∧ (1 ≤ k → Srt (seg l' 0 20)) ∧ (2 ≤ k → Srt (seg l' 20 40)) ∧ (3 ≤ k → Srt (seg l' 40 60)) ∧ FR wr base g cap l' ∧ RowKit.Below base w wr) (fun x _ _ => 100 - (intOf x).toNat)
  case atStart => exact ⟨0, 0, 20, l, rfl, rfl, rfl, rfl, by omega, HN.out, List.Perm.refl _, fun h => by omega, fun h => by omega, fun h => by omega, H.out, Below.refl _ _⟩
  case round =>
    obtain ⟨k, a, b, l', rfl, rfl, ha, hb, hk, hlen, hp, h1, h2, h3, hR, hbel⟩ := hrel
    have RR := Aside0.mk hR
    have HB := Aside0.mk hbel
    have LN := Aside0.mk hlen
    have PP := Aside0.mk hp
    have S1 := Aside0.mk h1
    have S2 := Aside0.mk h2
    have S3 := Aside0.mk h3
    clear hR hbel hlen hp h1 h2 h3 H HN
    have HA := Aside0.mk ha
    have HBB := Aside0.mk hb
    by_cases hlt : b ≤ N
    · have hwb : IntKind.i64.wrap ((b : Int) + 20) = (b : Int) + 20 := IntWalk.i64_in _ (by omega)
      have g1 : decide ((b : Int) ≤ (N : Int)) = true := decide_eq_true (by omega)
      have hab : a ≤ b := by omega
      clear ha hb
      go_wp2_with (first
        | (go_at_call 49; refine (ins_as N a b RR.out LN.out hab hlt h0 (by omega)).mono ?_; rintro e w3 ⟨rfl, Z, z1, z2, z3, hR3, hb3⟩; have R3 := Aside0.mk hR3; have B3 := Aside0.mk (HB.out.trans hb3); have Z1 := Aside0.mk z1; have Z2 := Aside0.mk z2; have Z3 := Aside0.mk z3; clear hR3 hb3 z1 z2 z3))
      go_roundw
      case rel =>
        have ha := HA.out
        have hb := HBB.out
        obtain ⟨l2, e2, f1, f2, f3, f4, f5⟩ := srt_first w3 (base := base) (g := g) (cap := cap) (N := N) (k := k) (l := l) (l' := l') (Z := Z) (by omega) hl LN.out PP.out S1.out S2.out S3.out Z1.out (by rw [hb, ha]; exact Z2.out) (by rw [hb, ha]; exact Z3.out)
        refine ⟨k + 1, b, b + 20, l2, rfl, by go_num, by omega, by omega, hlt, f1, f2, f3, f4, f5, ?_, B3.out⟩
        rw [e2, hb, ha]
        exact R3.out
      case measure =>
        have ha := HA.out
        have hb := HBB.out
        simp [intOf]
        go_num
    · have g1 : decide ((b : Int) ≤ (N : Int)) = false := decide_eq_false (by omega)
      have haN : a ≤ N := by omega
      clear ha hb
      go_wp2_with (first
        | (go_at_call 49; refine (ins_as N a N RR.out LN.out haN (Nat.le_refl _) h0 (by omega)).mono ?_; rintro e w3 ⟨rfl, Z, z1, z2, z3, hR3, hb3⟩; have R3 := Aside0.mk hR3; have B3 := Aside0.mk (HB.out.trans hb3); have Z1 := Aside0.mk z1; have Z2 := Aside0.mk z2; have Z3 := Aside0.mk z3; clear hR3 hb3 z1 z2 z3))
      obtain ⟨l2, e2, f1, f2, f3, f4, f5⟩ := srt_last (N := N) (k := k) (l := l) (l' := l') (Z := Z) (by have := HA.out; omega) (by have := HBB.out; omega) hl LN.out PP.out S1.out S2.out S3.out Z1.out (by rw [HA.out]; exact Z2.out) (by rw [HA.out]; exact Z3.out)
      rw [HA.out] at e2
      have R4 := Aside0.mk (R3.out.as e2.symm)
      have L4 := Aside0.mk f1
      have P4 := Aside0.mk f2
      have C4 := Aside0.mk (And.intro f3 (And.intro f4 f5))
      clear e2 f1 f2 f3 f4 f5 R3 RR HB LN PP S1 S2 S3 Z1 Z2 Z3
      go_loopw [6, 7, 8, 9] (fun x _ _ _ ws => ∃ (l3 : List Nat), l3.length = N ∧ l3.Perm l ∧ FR ws base g cap l3 ∧ RowKit.Below base w ws ∧ ((x = .int .i64 20 ∧ Srt (seg l3 0 20) ∧ Srt (seg l3 20 40) ∧ Srt (seg l3 40 60)) ∨ (x = .int .i64 40 ∧ Srt (seg l3 0 40) ∧ Srt (seg l3 40 60)) ∨ (x = .int .i64 80 ∧ Srt l3))) (fun x _ _ _ _ => 200 - (intOf x).toNat)
      case atStart => exact ⟨l2, L4.out, P4.out, R4.out, B3.out, .inl ⟨rfl, C4.out.1, C4.out.2.1, C4.out.2.2⟩⟩
      case round =>
        obtain ⟨l3, hlen, hp, hR, hbel, hcase⟩ := hrel
        have R5 := Aside0.mk hR
        have B5 := Aside0.mk hbel
        have L5 := Aside0.mk hlen
        have P5 := Aside0.mk hp
        clear hR hbel hlen hp L4 P4 R4 B3 C4
        obtain ⟨wz, hwz⟩ : ∃ wz, wz = wr := ⟨_, rfl⟩
        subst hwz
        rcases hcase with ⟨rfl, c1, c2, c3⟩ | ⟨rfl, c1, c2⟩ | ⟨rfl, c1⟩
        · have C1 := Aside0.mk c1
          have C2 := Aside0.mk c2
          have C3 := Aside0.mk c3
          clear c1 c2 c3
          by_cases h20 : 20 < N
          · have g2 : decide ((20 : Int) < (N : Int)) = true := decide_eq_true (by omega)
            go_wp2
            go_loopw [7, 8] (fun x y ws => ∃ (l4 : List Nat), l4.length = N ∧ l4.Perm l ∧ FR ws base g cap l4 ∧ RowKit.Below base w ws ∧ ((x = .int .i64 0 ∧ y = .int .i64 40 ∧ Srt (seg l4 0 20) ∧ Srt (seg l4 20 40) ∧ Srt (seg l4 40 60)) ∨ (x = .int .i64 40 ∧ y = .int .i64 80 ∧ 40 ≤ N ∧ Srt (seg l4 0 40) ∧ Srt (seg l4 40 60)))) (fun x _ _ => 200 - (intOf x).toNat)
            case atStart => exact ⟨l3, L5.out, P5.out, R5.out, B5.out, .inl ⟨rfl, rfl, C1.out, C2.out, C3.out⟩⟩
            case round =>
              obtain ⟨l4, hlen, hp, hR, hbel, hcase⟩ := hrel
              have R6 := Aside0.mk hR
              have B6 := Aside0.mk hbel
              have L6 := Aside0.mk hlen
              have P6 := Aside0.mk hp
              clear hR hbel hlen hp C1 C2 C3 R5 B5 L5 P5
              rcases hcase with ⟨rfl, rfl, c1, c2, c3⟩ | ⟨rfl, rfl, h40, c1, c2⟩
              · have C1 := Aside0.mk c1
                have C2 := Aside0.mk c2
                have C3 := Aside0.mk c3
                clear c1 c2 c3
                by_cases h40 : 40 ≤ N
                · have g3 : decide ((40 : Int) ≤ (N : Int)) = true := decide_eq_true (by omega)
                  go_wp2_with (first
                    | (go_at_call 50; refine (sym_as N 0 20 40 R6.out L6.out (by omega) (by omega) h40 (by omega) C1.out C2.out).mono ?_; rintro e w7 ⟨rfl, Z, z1, z2, z3, hR7, hb7⟩; have R7 := Aside0.mk hR7; have B7 := Aside0.mk (B6.out.trans hb7); have Z1 := Aside0.mk z1; have Z2 := Aside0.mk z2; have Z3 := Aside0.mk z3; clear hR7 hb7 z1 z2 z3))
                  go_roundw
                  case rel =>
                    have hl6 := L6.out
                    refine ⟨l4.take 0 ++ Z ++ l4.drop 40, ?_, (part_perm (by omega) Z2.out).trans P6.out, R7.out, B7.out, .inr ⟨rfl, rfl, h40, ?_, ?_⟩⟩
                    · rw [part_len (by omega) (by omega) Z3.out]; exact hl6
                    · rw [part_self (by omega) (by omega) Z3.out (.inl rfl)]; exact Z1.out
                    · rw [part_seg (by omega) (by omega) Z3.out (by omega)]; exact C3.out
                  case measure =>
                    simp [intOf]
                · have g3 : decide ((40 : Int) ≤ (N : Int)) = false := decide_eq_false (by omega)
                  have hs : seg l4 20 40 = seg l4 20 N := by
                    unfold seg
                    rw [List.take_of_length_le (by have := L6.out; omega), List.take_of_length_le (by have := L6.out; omega)]
                  have C2' := Aside0.mk (hs ▸ C2.out)
                  clear hs
                  go_wp2_with (first
                    | (go_at_call 50; refine (sym_as N 0 20 N R6.out L6.out (by omega) h20 (Nat.le_refl _) (by omega) C1.out C2'.out).mono ?_; rintro e w7 ⟨rfl, Z, z1, z2, z3, hR7, hb7⟩; have R7 := Aside0.mk hR7; have B7 := Aside0.mk (B6.out.trans hb7); have Z1 := Aside0.mk z1; have Z2 := Aside0.mk z2; have Z3 := Aside0.mk z3; clear hR7 hb7 z1 z2 z3))
                  have hl6 := L6.out
                  refine ⟨⟨l4.take 0 ++ Z ++ l4.drop N, ?_, (part_perm (by omega) Z2.out).trans P6.out, R7.out, B7.out, .inr (.inl ⟨rfl, ?_, ?_⟩)⟩, by simp [intOf]⟩
                  · rw [part_len (by omega) (by omega) Z3.out]; exact hl6
                  · rw [part_self (by omega) (by omega) Z3.out (.inr ⟨by omega, by omega⟩)]; exact Z1.out
                  · exact srt_seg_nil (by rw [part_len (by omega) (by omega) Z3.out]; omega)
              · have C1 := Aside0.mk c1
                have C2 := Aside0.mk c2
                clear c1 c2
                have g3 : decide ((80 : Int) ≤ (N : Int)) = false := decide_eq_false (by omega)
                have g4 : decide ((60 : Int) < (N : Int)) = false := decide_eq_false (by omega)
                go_wp2
                exact ⟨⟨l4, L6.out, P6.out, R6.out, B6.out, .inr (.inl ⟨rfl, C1.out, C2.out⟩)⟩, by simp [intOf]⟩
          · have g2 : decide ((20 : Int) < (N : Int)) = false := decide_eq_false (by omega)
            go_wp2
            go_returns
            have h_ := C1.out
            rw [seg_all (by have := L5.out; omega)] at h_
            exact ⟨rfl, l3, h_, P5.out, R5.out, B5.out⟩
        · have C1 := Aside0.mk c1
          have C2 := Aside0.mk c2
          clear c1 c2
          by_cases h40 : 40 < N
          · have g2 : decide ((40 : Int) < (N : Int)) = true := decide_eq_true (by omega)
            go_wp2
            go_loopw [7, 8] (fun x y ws => x = .int .i64 0 ∧ y = .int .i64 80 ∧ ws = wz) (fun x _ _ => 200 - (intOf x).toNat)
            case atStart => exact ⟨rfl, rfl, rfl⟩
            case round =>
              obtain ⟨rfl, rfl, rfl⟩ := hrel
              have g3 : decide ((80 : Int) ≤ (N : Int)) = false := decide_eq_false (by omega)
              have hs : seg l3 40 60 = seg l3 40 N := by
                unfold seg
                rw [List.take_of_length_le (by have := L5.out; omega), List.take_of_length_le (by have := L5.out; omega)]
              have C2' := Aside0.mk (hs ▸ C2.out)
              clear hs
              go_wp2_with (first
                | (go_at_call 50; refine (sym_as N 0 40 N R5.out L5.out (by omega) h40 (Nat.le_refl _) (by omega) C1.out C2'.out).mono ?_; rintro e w7 ⟨rfl, Z, z1, z2, z3, hR7, hb7⟩; have R7 := Aside0.mk hR7; have B7 := Aside0.mk (B5.out.trans hb7); have Z1 := Aside0.mk z1; have Z2 := Aside0.mk z2; have Z3 := Aside0.mk z3; clear hR7 hb7 z1 z2 z3))
              have hl5 := L5.out
              refine ⟨⟨l3.take 0 ++ Z ++ l3.drop N, ?_, (part_perm (by omega) Z2.out).trans P5.out, R7.out, B7.out, .inr (.inr ⟨rfl, ?_⟩)⟩, by simp [intOf]⟩
              · rw [part_len (by omega) (by omega) Z3.out]; exact hl5
              · have h_ := Z1.out
                rw [List.take_zero, List.nil_append, List.drop_of_length_le (by omega), List.append_nil]
                exact h_
          · have g2 : decide ((40 : Int) < (N : Int)) = false := decide_eq_false (by omega)
            go_wp2
            go_returns
            have h_ := C1.out
            rw [seg_all (by have := L5.out; omega)] at h_
            exact ⟨rfl, l3, h_, P5.out, R5.out, B5.out⟩
        · have g2 : decide ((80 : Int) < (N : Int)) = false := decide_eq_false (by omega)
          have C1 := Aside0.mk c1
          clear c1
          go_wp2
          go_returns
          exact ⟨rfl, l3, C1.out, P5.out, R5.out, B5.out⟩
set_option maxHeartbeats 1000000 in
theorem SortS60 {w : World} {base g cap : Nat} {l : List Nat} (N : Nat) (h : FR w base g cap l) (hN : l.length = N) (h0 : 0 < N) (hl : N ≤ 60) :
    Calls Try.prog 43 #[.slice (some ⟨g, 0, none⟩) N cap, .func (.func 11) #[] #[]] w fun e w' => e = .returned (.tuple #[]) ∧ ∃ Z, Srt Z ∧ Z.Perm l ∧ FR w' base g cap Z ∧ RowKit.Below base w w' := by
  have HI := Aside0.mk (stable60 N h hN h0 hl)
  clear h
  go_enter Try.func43, Try.ntmps43
  go_wp2_with (go_at_call 48; refine HI.out.mono ?_; rintro e w1 ⟨rfl, Z, z1, z2, hR, hb⟩; have Z1 := Aside0.mk z1; have Z2 := Aside0.mk z2; have R1 := Aside0.mk hR; have B1 := Aside0.mk hb; clear z1 z2 hR hb)
  go_returns
  exact ⟨rfl, Z, Z1.out, Z2.out, R1.out, B1.out⟩
set_option maxHeartbeats 1000000 in
theorem gSort60 {w : World} {A : Option Addr} {c : Nat} {l : List Nat} (N : Nat) (hr : Kd.C kF w A N l) (hN : l.length = N) (h0 : 0 < N) (hl : N ≤ 60) : Calls Try.prog 31 #[.slice A N c] w fun e w' => ∃ g cap Z, e = .returned (.slice (some ⟨g, 0, none⟩) N cap) ∧ Srt Z ∧ Z.Perm l ∧ Kd.C kF w' (some ⟨g, 0, none⟩) N Z ∧ RowKit.Below w.heap.size w w' := by
  subst hN
  obtain ⟨ad, x, hA, _, _⟩ := flo_at hr 0 h0
  subst hA
  have HR := Aside0.mk hr
  clear hr
  go_enter Try.func31, Try.ntmps31
  go_wp2_with (first
    | (go_at_call 42; refine (Clone_calls HR.out (by omega)).mono ?_; rintro e w1 ⟨v0, rfl, hR, hb⟩; obtain ⟨g, cap, ev, hg⟩ := Kd.R_form hR h0; subst ev; have R1 := Aside0.mk (show FR w1 w.heap.size g cap l from hR); have B1 := Aside0.mk hb; clear hR hb hg)
    | (go_at_call 43; refine (SortS60 l.length R1.out rfl h0 hl).mono ?_; rintro e w2 ⟨rfl, Z, z1, z2, hR, hb⟩; have hz := z2.length_eq; have hC := (Kd.R_reads' (show Kd.R kF 23 w2 w.heap.size (fun _ => True) _ Z from hR)).2.2; rw [hz] at hC; have C2 := Aside0.mk hC; have B2 := Aside0.mk (B1.out.trans hb); have Z1 := Aside0.mk z1; have Z2 := Aside0.mk z2; clear z1 z2 hR hb hC hz))
  go_ret
  exact ⟨g, cap, Z, rfl, Z1.out, Z2.out, C2.out, B2.out⟩
end Go.Proofs.Ytngncegokmppiaa.Flo
