/- A memory that is not there does nothing. -/
import Derived.Handy
import Derived.Test.YtifdinoioddnlaaLawB
namespace Go.Proofs.Ytifdinoioddnlaa.Mem
open Go Go.RowKit Go.Proofs.Ytifdinoioddnlaa.ML Go.Proofs.YtifdinoioddnlaaW.PrintWords Go.Proofs.YtifdinoioddnlaaW.PrintLast Go.Proofs.YtifdinoioddnlaaW.PrintMore Go.Proofs.Ytifdinoioddnlaa.Print
set_option linter.unusedVariables false
set_option linter.unusedSimpArgs false
set_option maxHeartbeats 2000000 in
theorem MemoryNil_calls (w : World) (o : S40) (KA : Option Addr) (kc : Nat) (hk : Kd.C Kd.bool w KA o.f3.length o.f3) (hkc : o.f3.length ≤ kc) :
    Calls Try.prog 6 #[opV o KA kc] w fun e w' => e = .returned (.bool true) ∧ Below w.heap.size w w' := by
  obtain ⟨k, hkk⟩ : ∃ k, kindOf o.f0 = k := ⟨_, rfl⟩
  have hd : ∀ W, Kd.C Kd.bool W KA o.f3.length o.f3 → Calls Try.prog _ #[.pointer none, opV o KA kc] W _ := fun W hW => does_nil W o KA kc hW hkc
  have hkd : ∀ W, Kd.C Kd.bool W KA o.f3.length o.f3 → Calls Try.prog _ #[.agg #[.int .i64 o.f0, .int .i64 o.f1, .int .u64 o.f2, .slice KA o.f3.length kc]] W _ := fun W hW => kind_calls o.f0 o.f1 o.f2 KA kc o.f3 W hW hkc
  rw [hkk] at hd hkd
  have HD := Aside0.mk hd
  have HKd := Aside0.mk hkd
  have HK := Aside0.mk hk
  clear hd hkd hk hkc hkk
  by_cases hk3 : k < 3
  · simp only [if_pos hk3] at HD
    have g3 : decide (k < 3) = true := decide_eq_true hk3
    clear hk3
    go_enter Try.func6, Try.ntmps6
    go_wp2_with fail
    refine (lives_calls _).mono ?_
    rintro e w1 ⟨rfl, hb⟩
    have hbw : Below w.heap.size w w1 := ((Below.refl _ _).alloc (Nat.le_refl _) _).trans (hb.mono (by simp))
    have x0 : w1.cell? ⟨w.heap.size, 0, none⟩ = some (.int .i64 o.f0) := (hb.cell (p := ⟨w.heap.size, 0, none⟩) (by simp)).trans (cell_of (heap_new w _) rfl)
    have x1 : w1.cell? ⟨w.heap.size, 1, none⟩ = some (.int .i64 o.f1) := (hb.cell (p := ⟨w.heap.size, 1, none⟩) (by simp)).trans (cell_of (heap_new w _) rfl)
    have x2 : w1.cell? ⟨w.heap.size, 2, none⟩ = some (.int .u64 o.f2) := (hb.cell (p := ⟨w.heap.size, 2, none⟩) (by simp)).trans (cell_of (heap_new w _) rfl)
    have x3 : w1.cell? ⟨w.heap.size, 3, none⟩ = some (.slice KA o.f3.length kc) := (hb.cell (p := ⟨w.heap.size, 3, none⟩) (by simp)).trans (cell_of (heap_new w _) rfl)
    have hsz : w.heap.size < w1.heap.size := by have := hb.size; simp at this; omega
    have B1 := Aside0.mk hbw
    have Z1 := Aside0.mk hsz
    clear hb hbw hsz
    go_wp2_with fail
    refine (HD.out _ (Kd.C_below HK.out B1.out)).mono ?_
    rintro e w2 ⟨rfl, hb⟩
    have y0 := (hb.cell (p := ⟨w.heap.size, 0, none⟩) Z1.out).trans x0
    have y1 := (hb.cell (p := ⟨w.heap.size, 1, none⟩) Z1.out).trans x1
    have y2 := (hb.cell (p := ⟨w.heap.size, 2, none⟩) Z1.out).trans x2
    have y3 := (hb.cell (p := ⟨w.heap.size, 3, none⟩) Z1.out).trans x3
    have B2 := Aside0.mk (B1.out.trans (hb.mono B1.out.size))
    have Z2 := Aside0.mk (Nat.lt_of_lt_of_le Z1.out hb.size)
    clear hb x0 x1 x2 x3
    go_wp2_with fail
    refine (HKd.out _ (Kd.C_below HK.out B2.out)).mono ?_
    rintro e w3 ⟨rfl, hb⟩
    have z1 := (hb.cell (p := ⟨w.heap.size, 1, none⟩) Z2.out).trans y1
    have B3 := Aside0.mk (B2.out.trans (hb.mono B2.out.size))
    clear hb y0 y1 y2 y3
    go_wp2_with fail
    refine (Read_nil _ _).mono ?_
    rintro e w' ⟨rfl, rfl⟩
    go_wp2_with fail
    refine (Image_nil _).mono ?_
    rintro e w' ⟨rfl, rfl⟩
    go_wp2_with fail
    refine (Size_nil _).mono ?_
    rintro e w' ⟨rfl, rfl⟩
    go_wp2_with fail
    refine (Calls_nil _).mono ?_
    rintro e w' ⟨rfl, rfl⟩
    go_wp2_with fail
    refine (Loose_nil _).mono ?_
    rintro e w' ⟨rfl, rfl⟩
    go_wp2
    go_ret
    exact ⟨rfl, B3.out⟩
  · simp only [if_neg hk3] at HD
    have g3 : decide (k < 3) = false := decide_eq_false hk3
    clear hk3
    go_enter Try.func6, Try.ntmps6
    go_wp2_with fail
    refine (lives_calls _).mono ?_
    rintro e w1 ⟨rfl, hb⟩
    have hbw : Below w.heap.size w w1 := ((Below.refl _ _).alloc (Nat.le_refl _) _).trans (hb.mono (by simp))
    have x0 : w1.cell? ⟨w.heap.size, 0, none⟩ = some (.int .i64 o.f0) := (hb.cell (p := ⟨w.heap.size, 0, none⟩) (by simp)).trans (cell_of (heap_new w _) rfl)
    have x1 : w1.cell? ⟨w.heap.size, 1, none⟩ = some (.int .i64 o.f1) := (hb.cell (p := ⟨w.heap.size, 1, none⟩) (by simp)).trans (cell_of (heap_new w _) rfl)
    have x2 : w1.cell? ⟨w.heap.size, 2, none⟩ = some (.int .u64 o.f2) := (hb.cell (p := ⟨w.heap.size, 2, none⟩) (by simp)).trans (cell_of (heap_new w _) rfl)
    have x3 : w1.cell? ⟨w.heap.size, 3, none⟩ = some (.slice KA o.f3.length kc) := (hb.cell (p := ⟨w.heap.size, 3, none⟩) (by simp)).trans (cell_of (heap_new w _) rfl)
    have hsz : w.heap.size < w1.heap.size := by have := hb.size; simp at this; omega
    have B1 := Aside0.mk hbw
    have Z1 := Aside0.mk hsz
    clear hb hbw hsz
    go_wp2_with fail
    refine (HD.out _ (Kd.C_below HK.out B1.out)).mono ?_
    rintro e w2 ⟨rfl, hb⟩
    have y0 := (hb.cell (p := ⟨w.heap.size, 0, none⟩) Z1.out).trans x0
    have y1 := (hb.cell (p := ⟨w.heap.size, 1, none⟩) Z1.out).trans x1
    have y2 := (hb.cell (p := ⟨w.heap.size, 2, none⟩) Z1.out).trans x2
    have y3 := (hb.cell (p := ⟨w.heap.size, 3, none⟩) Z1.out).trans x3
    have B2 := Aside0.mk (B1.out.trans (hb.mono B1.out.size))
    have Z2 := Aside0.mk (Nat.lt_of_lt_of_le Z1.out hb.size)
    clear hb x0 x1 x2 x3
    go_wp2_with fail
    refine (HKd.out _ (Kd.C_below HK.out B2.out)).mono ?_
    rintro e w3 ⟨rfl, hb⟩
    have z1 := (hb.cell (p := ⟨w.heap.size, 1, none⟩) Z2.out).trans y1
    have B3 := Aside0.mk (B2.out.trans (hb.mono B2.out.size))
    clear hb y0 y1 y2 y3
    go_wp2_with fail
    refine (Read_nil _ _).mono ?_
    rintro e w' ⟨rfl, rfl⟩
    go_wp2_with fail
    refine (Image_nil _).mono ?_
    rintro e w' ⟨rfl, rfl⟩
    go_wp2_with fail
    refine (Size_nil _).mono ?_
    rintro e w' ⟨rfl, rfl⟩
    go_wp2_with fail
    refine (Calls_nil _).mono ?_
    rintro e w' ⟨rfl, rfl⟩
    go_wp2_with fail
    refine (Loose_nil _).mono ?_
    rintro e w' ⟨rfl, rfl⟩
    go_wp2
    go_ret
    exact ⟨rfl, B3.out⟩
end Go.Proofs.Ytifdinoioddnlaa.Mem
