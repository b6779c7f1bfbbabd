import Derived.Test.YtkbhilhefnahpaaProg
import Derived.Test.YtkbhilhefnahpaaHArr
import Derived.Below
import Derived.Deep.Draws
import Derived.Deep.AppendLies
import Derived.Maps.AppendAt
import Derived.OwnWalk
import Derived.Laws.BytesArg
import Derived.Laws.MakeOwn
import Derived.Laws.OwnMore
import Derived.Deep.OwnRows
import Derived.Tactics
import Derived.Lib.ConvBytes
import Derived.Laws.Slices
import Derived.WalkKit
import Derived.KernelRfl
import Derived.RowKit3
import Derived.Deep.LoopGhost
import Derived.Deep.QuietTactic
import Derived.BigQuiet
import Derived.WideLaws
import Derived.Deep.DeepCutAuto
import Derived.Deep.CutBlock
import Derived.Deep.RegionHeld3
import Derived.Laws.Rows
import Derived.Lib.AppendStr
import Derived.ArgAppend
import Derived.Laws.IdiomCopy
import Derived.OrdersHeld
import Derived.Laws.BitsLemmas
import Derived.RowKit
import Derived.Test.YtkbhilhefnahpaaWWords
import Derived.Test.YtkbhilhefnahpaaWLast
import Derived.Test.YtkbhilhefnahpaaWTab
import Derived.Test.YtkbhilhefnahpaaWFour
import Derived.Test.YtkbhilhefnahpaaWQPut
import Derived.Test.YtkbhilhefnahpaaWApart
import Derived.Test.YtkbhilhefnahpaaWArr
import Derived.Test.YtkbhilhefnahpaaWZeros
import Derived.Test.YtkbhilhefnahpaaWFoot
import Derived.Test.YtkbhilhefnahpaaWKept
import Derived.Test.YtkbhilhefnahpaaWShare
import Derived.Test.YtkbhilhefnahpaaWN
import Derived.Test.YtkbhilhefnahpaaWFootNe
import Derived.Test.YtkbhilhefnahpaaWAt
import Derived.Test.YtkbhilhefnahpaaWEqStruct
import Derived.Test.YtkbhilhefnahpaaWRepsOne
import Derived.Test.YtkbhilhefnahpaaWInv
import Derived.Test.YtkbhilhefnahpaaWInvWords
import Derived.Test.YtkbhilhefnahpaaWGuard
import Derived.Test.YtkbhilhefnahpaaWNEv
import Derived.Test.YtkbhilhefnahpaaWMore
namespace Go.Proofs.Ytkbhilhefnahpaa.Print
open Go.RowKit Go.Proofs.YtkbhilhefnahpaaW.PrintWords Go.Proofs.YtkbhilhefnahpaaW.PrintLast Go.Proofs.YtkbhilhefnahpaaW.PrintMore
attribute [local go_sem] Zd Zc ZF ZE yV yU Zk Zj   -- for this text's walks alone
set_option linter.unusedVariables false
set_option linter.unusedSimpArgs false



def errW : Option Int → Value
 | none => .nilIface
 | some c => .iface 0 (.int .i64 c)
theorem zy : errW none = .nilIface := rfl
theorem zx (c : Int) : errW (some c) = .iface 0 (.int .i64 c) := rfl

theorem info3 : (Try.prog.info? 3).map (fun i => (i.zero, i.size, i.bytes)) = some (some (.int .i64 0), 1, 8) := by kernel_rfl
theorem Xk : (Try.prog.info? 22).map (fun i => (i.zero, i.size, i.bytes)) = some (some (.int .u64 0), 1, 8) := by kernel_rfl
theorem info102 : (Try.prog.info? 102).map (fun i => (i.zero, i.size, i.bytes)) = some (some (.agg #[(.int .i64 0), (.int .i64 0), (.int .i64 0)]), 3, 24) := by kernel_rfl
/-! #### struct type 92 -/
structure S92 where
 f0 : Int
 f1 : Int
 f2 : Int
 f3 : Int
def z92 : S92 := ⟨(0 : Int), (0 : Int), (0 : Int), (0 : Int)⟩
def k92 : Kd S92 := Kd.iso (Kd.pair (Kd.int .i64) (Kd.pair (Kd.int .i64) (Kd.pair (Kd.int .i64) (Kd.int .i64)))) (fun x : S92 => (x.f0, x.f1, x.f2, x.f3))
theorem k92_open {w : World} {x : S92} {cs : List Value} (h : k92.K w x cs) : cs = [.int .i64 x.f0, .int .i64 x.f1, .int .i64 x.f2, .int .i64 x.f3] := by
 obtain ⟨_, _, rfl, rfl, ⟨_, _, rfl, rfl, ⟨_, _, rfl, rfl, rfl⟩⟩⟩ := h
 exact rfl
theorem k92_openM {w : World} {base : Nat} {ok : Nat → Prop} {x : S92} {cs : List Value} (h : k92.M w base ok x cs) : cs = [.int .i64 x.f0, .int .i64 x.f1, .int .i64 x.f2, .int .i64 x.f3] := by
 obtain ⟨_, _, rfl, rfl, ⟨_, _, rfl, rfl, ⟨_, _, rfl, rfl, rfl⟩⟩⟩ := h
 exact rfl
theorem Xf (w : World) (base : Nat) (ok : Nat → Prop) (x : S92)  : k92.M w base ok x [.int .i64 x.f0, .int .i64 x.f1, .int .i64 x.f2, .int .i64 x.f3] := ⟨[.int .i64 x.f0], [.int .i64 x.f1, .int .i64 x.f2, .int .i64 x.f3], rfl, rfl, ⟨[.int .i64 x.f1], [.int .i64 x.f2, .int .i64 x.f3], rfl, rfl, ⟨[.int .i64 x.f2], [.int .i64 x.f3], rfl, rfl, rfl⟩⟩⟩
def zn (xs : List S92) (i : Int) : S92 := xs.getD i.toNat z92
theorem at_T92 {w : World} {A : Option Addr} {n : Nat} {xs : List S92} (h : Kd.C k92 w A n xs) (i : Int) (h0 : 0 ≤ i) (h1 : i < n) : ∃ ad , A = some ad ∧ w.cell? (ad.add (i.toNat * 4)) = some (.int .i64 (zn xs i).f0) ∧ w.cell? ⟨(ad.add (i.toNat * 4)).block, (ad.add (i.toNat * 4)).off + 1, none⟩ = some (.int .i64 (zn xs i).f1) ∧ w.cell? ⟨(ad.add (i.toNat * 4)).block, (ad.add (i.toNat * 4)).off + 2, none⟩ = some (.int .i64 (zn xs i).f2) ∧ w.cell? ⟨(ad.add (i.toNat * 4)).block, (ad.add (i.toNat * 4)).off + 3, none⟩ = some (.int .i64 (zn xs i).f3) := by
 obtain ⟨ad, c, e, _, hK, hc0⟩ := Kd.C_get h z92 i h0 h1
 have hc : ∀ j u, c[j]? = some u → w.cell? (ad.add (i.toNat * 4 + j)) = some u := hc0
 obtain rfl := k92_open hK
 exact ⟨ad, e, hc 0 _ rfl, by rw [← yj _ _ 1 (by omega)]; exact hc 1 _ rfl, by rw [← yj _ _ 2 (by omega)]; exact hc 2 _ rfl, by rw [← yj _ _ 3 (by omega)]; exact hc 3 _ rfl⟩

/-! #### struct type 51 -/
structure S51 where
 f0 : Int
 f1 : Int
def z51 : S51 := ⟨(0 : Int), (0 : Int)⟩
def k51 : Kd S51 := Kd.iso (Kd.pair (Kd.int .i64) (Kd.int .u64)) (fun x : S51 => (x.f0, x.f1))
theorem k51_open {w : World} {x : S51} {cs : List Value} (h : k51.K w x cs) : cs = [.int .i64 x.f0, .int .u64 x.f1] := by
 obtain ⟨_, _, rfl, rfl, rfl⟩ := h
 exact rfl
theorem k51_openM {w : World} {base : Nat} {ok : Nat → Prop} {x : S51} {cs : List Value} (h : k51.M w base ok x cs) : cs = [.int .i64 x.f0, .int .u64 x.f1] := by
 obtain ⟨_, _, rfl, rfl, rfl⟩ := h
 exact rfl
theorem k51_mk (w : World) (x : S51)  : k51.K w x [.int .i64 x.f0, .int .u64 x.f1] := ⟨[.int .i64 x.f0], [.int .u64 x.f1], rfl, rfl, rfl⟩
theorem k51_mkM (w : World) (base : Nat) (ok : Nat → Prop) (x : S51)  : k51.M w base ok x [.int .i64 x.f0, .int .u64 x.f1] := ⟨[.int .i64 x.f0], [.int .u64 x.f1], rfl, rfl, rfl⟩
def yT (xs : List S51) (i : Int) : S51 := xs.getD i.toNat z51
theorem at_T51 {w : World} {A : Option Addr} {n : Nat} {xs : List S51} (h : Kd.C k51 w A n xs) (i : Int) (h0 : 0 ≤ i) (h1 : i < n) : ∃ ad , A = some ad ∧ w.cell? (ad.add (i.toNat * 2)) = some (.int .i64 (yT xs i).f0) ∧ w.cell? ⟨(ad.add (i.toNat * 2)).block, (ad.add (i.toNat * 2)).off + 1, none⟩ = some (.int .u64 (yT xs i).f1) := by
 obtain ⟨ad, c, e, _, hK, hc0⟩ := Kd.C_get h z51 i h0 h1
 have hc : ∀ j u, c[j]? = some u → w.cell? (ad.add (i.toNat * 2 + j)) = some u := hc0
 obtain rfl := k51_open hK
 exact ⟨ad, e, hc 0 _ rfl, by rw [← yj _ _ 1 (by omega)]; exact hc 1 _ rfl⟩

/-! #### struct type 43 -/
structure S43 where
 f0 : Int
 f1 : Int
 f2 : Int
 f3 : Int
 f4 : Int
def z43 : S43 := ⟨(0 : Int), (0 : Int), (0 : Int), (0 : Int), (0 : Int)⟩
def k43 : Kd S43 := Kd.iso (Kd.pair (Kd.int .i64) (Kd.pair (Kd.int .i64) (Kd.pair (Kd.int .i64) (Kd.pair (Kd.int .i64) (Kd.int .i64))))) (fun x : S43 => (x.f0, x.f1, x.f2, x.f3, x.f4))
theorem k43_open {w : World} {x : S43} {cs : List Value} (h : k43.K w x cs) : cs = [.int .i64 x.f0, .int .i64 x.f1, .int .i64 x.f2, .int .i64 x.f3, .int .i64 x.f4] := by
 obtain ⟨_, _, rfl, rfl, ⟨_, _, rfl, rfl, ⟨_, _, rfl, rfl, ⟨_, _, rfl, rfl, rfl⟩⟩⟩⟩ := h
 exact rfl
/-! #### struct type 45 -/
structure S45 where
 f0 : Int
 f1 : Int
 f2 : Int
 f3 : Int
 f4 : S43
 f5 : Int
def z45 : S45 := ⟨(0 : Int), (0 : Int), (0 : Int), (0 : Int), z43, (0 : Int)⟩
def k45 : Kd S45 := Kd.iso (Kd.pair (Kd.int .i64) (Kd.pair (Kd.int .i64) (Kd.pair (Kd.int .i64) (Kd.pair (Kd.int .u64) (Kd.pair k43 (Kd.int .i64)))))) (fun x : S45 => (x.f0, x.f1, x.f2, x.f3, x.f4, x.f5))
theorem k45_open {w : World} {x : S45} {cs : List Value} (h : k45.K w x cs) : cs = [.int .i64 x.f0, .int .i64 x.f1, .int .i64 x.f2, .int .u64 x.f3, .int .i64 x.f4.f0, .int .i64 x.f4.f1, .int .i64 x.f4.f2, .int .i64 x.f4.f3, .int .i64 x.f4.f4, .int .i64 x.f5] := by
 obtain ⟨_, _, rfl, rfl, ⟨_, _, rfl, rfl, ⟨_, _, rfl, rfl, ⟨_, _, rfl, rfl, ⟨_, _, rfl, s4, rfl⟩⟩⟩⟩⟩ := h
 obtain rfl := k43_open s4
 exact rfl
/-! #### struct type 47 -/
structure S47 where
 f0 : Int
 f1 : Int
 f2 : Int
 f3 : S45
 f4 : (List Int)
 f5 : (List Int)
def z47 : S47 := ⟨(0 : Int), (0 : Int), (0 : Int), z45, ([] : List Int), ([] : List Int)⟩
def k47 : Kd S47 := Kd.iso (Kd.pair (Kd.int .i64) (Kd.pair (Kd.int .i64) (Kd.pair (Kd.int .u64) (Kd.pair k45 (Kd.pair (Kd.slice 22 (Kd.int .u64)) (Kd.slice 3 (Kd.int .i64))))))) (fun x : S47 => (x.f0, x.f1, x.f2, x.f3, x.f4, x.f5))
theorem k47_open {w : World} {x : S47} {cs : List Value} (h : k47.K w x cs) : ∃ A13 c13 A14 c14, cs = [.int .i64 x.f0, .int .i64 x.f1, .int .u64 x.f2, .int .i64 x.f3.f0, .int .i64 x.f3.f1, .int .i64 x.f3.f2, .int .u64 x.f3.f3, .int .i64 x.f3.f4.f0, .int .i64 x.f3.f4.f1, .int .i64 x.f3.f4.f2, .int .i64 x.f3.f4.f3, .int .i64 x.f3.f4.f4, .int .i64 x.f3.f5, .slice A13 x.f4.length c13, .slice A14 x.f5.length c14] ∧ x.f4.length ≤ c13 ∧ (Kd.int .u64).C w A13 x.f4.length x.f4 ∧ x.f5.length ≤ c14 ∧ (Kd.int .i64).C w A14 x.f5.length x.f5 := by
 obtain ⟨_, _, rfl, rfl, ⟨_, _, rfl, rfl, ⟨_, _, rfl, rfl, ⟨_, _, rfl, s3, ⟨_, _, rfl, ⟨A13, c13, rfl, l13, g13⟩, ⟨A14, c14, rfl, l14, g14⟩⟩⟩⟩⟩⟩ := h
 obtain rfl := k45_open s3
 exact ⟨A13, c13, A14, c14, rfl, l13, g13, l14, g14⟩
def yO (xs : List S47) (i : Int) : S47 := xs.getD i.toNat z47
theorem at_T47 {w : World} {A : Option Addr} {n : Nat} {xs : List S47} (h : Kd.C k47 w A n xs) (i : Int) (h0 : 0 ≤ i) (h1 : i < n) : ∃ ad A13 c13 A14 c14, A = some ad ∧ w.cell? (ad.add (i.toNat * 15)) = some (.int .i64 (yO xs i).f0) ∧ w.cell? ⟨(ad.add (i.toNat * 15)).block, (ad.add (i.toNat * 15)).off + 1, none⟩ = some (.int .i64 (yO xs i).f1) ∧ w.cell? ⟨(ad.add (i.toNat * 15)).block, (ad.add (i.toNat * 15)).off + 2, none⟩ = some (.int .u64 (yO xs i).f2) ∧ w.cell? ⟨(ad.add (i.toNat * 15)).block, (ad.add (i.toNat * 15)).off + 3, none⟩ = some (.int .i64 (yO xs i).f3.f0) ∧ w.cell? ⟨(ad.add (i.toNat * 15)).block, (ad.add (i.toNat * 15)).off + 4, none⟩ = some (.int .i64 (yO xs i).f3.f1) ∧ w.cell? ⟨(ad.add (i.toNat * 15)).block, (ad.add (i.toNat * 15)).off + 5, none⟩ = some (.int .i64 (yO xs i).f3.f2) ∧ w.cell? ⟨(ad.add (i.toNat * 15)).block, (ad.add (i.toNat * 15)).off + 6, none⟩ = some (.int .u64 (yO xs i).f3.f3) ∧ w.cell? ⟨(ad.add (i.toNat * 15)).block, (ad.add (i.toNat * 15)).off + 7, none⟩ = some (.int .i64 (yO xs i).f3.f4.f0) ∧ w.cell? ⟨(ad.add (i.toNat * 15)).block, (ad.add (i.toNat * 15)).off + 8, none⟩ = some (.int .i64 (yO xs i).f3.f4.f1) ∧ w.cell? ⟨(ad.add (i.toNat * 15)).block, (ad.add (i.toNat * 15)).off + 9, none⟩ = some (.int .i64 (yO xs i).f3.f4.f2) ∧ w.cell? ⟨(ad.add (i.toNat * 15)).block, (ad.add (i.toNat * 15)).off + 10, none⟩ = some (.int .i64 (yO xs i).f3.f4.f3) ∧ w.cell? ⟨(ad.add (i.toNat * 15)).block, (ad.add (i.toNat * 15)).off + 11, none⟩ = some (.int .i64 (yO xs i).f3.f4.f4) ∧ w.cell? ⟨(ad.add (i.toNat * 15)).block, (ad.add (i.toNat * 15)).off + 12, none⟩ = some (.int .i64 (yO xs i).f3.f5) ∧ w.cell? ⟨(ad.add (i.toNat * 15)).block, (ad.add (i.toNat * 15)).off + 13, none⟩ = some (.slice A13 (yO xs i).f4.length c13) ∧ w.cell? ⟨(ad.add (i.toNat * 15)).block, (ad.add (i.toNat * 15)).off + 14, none⟩ = some (.slice A14 (yO xs i).f5.length c14) ∧ (yO xs i).f4.length ≤ c13 ∧ (Kd.int .u64).C w A13 (yO xs i).f4.length (yO xs i).f4 ∧ (yO xs i).f5.length ≤ c14 ∧ (Kd.int .i64).C w A14 (yO xs i).f5.length (yO xs i).f5 := by
 obtain ⟨ad, c, e, _, hK, hc0⟩ := Kd.C_get h z47 i h0 h1
 have hc : ∀ j u, c[j]? = some u → w.cell? (ad.add (i.toNat * 15 + j)) = some u := hc0
 obtain ⟨A13, c13, A14, c14, rfl, l13, g13, l14, g14⟩ := k47_open hK
 exact ⟨ad, A13, c13, A14, c14, e, hc 0 _ rfl, by rw [← yj _ _ 1 (by omega)]; exact hc 1 _ rfl, by rw [← yj _ _ 2 (by omega)]; exact hc 2 _ rfl, by rw [← yj _ _ 3 (by omega)]; exact hc 3 _ rfl, by rw [← yj _ _ 4 (by omega)]; exact hc 4 _ rfl, by rw [← yj _ _ 5 (by omega)]; exact hc 5 _ rfl, by rw [← yj _ _ 6 (by omega)]; exact hc 6 _ rfl, by rw [← yj _ _ 7 (by omega)]; exact hc 7 _ rfl, by rw [← yj _ _ 8 (by omega)]; exact hc 8 _ rfl, by rw [← yj _ _ 9 (by omega)]; exact hc 9 _ rfl, by rw [← yj _ _ 10 (by omega)]; exact hc 10 _ rfl, by rw [← yj _ _ 11 (by omega)]; exact hc 11 _ rfl, by rw [← yj _ _ 12 (by omega)]; exact hc 12 _ rfl, by rw [← yj _ _ 13 (by omega)]; exact hc 13 _ rfl, by rw [← yj _ _ 14 (by omega)]; exact hc 14 _ rfl, l13, g13, l14, g14⟩

/-! #### struct type 102 -/
structure S102 where
 f0 : Int
 f1 : Int
 f2 : Int
def z102 : S102 := ⟨(0 : Int), (0 : Int), (0 : Int)⟩
def k102 : Kd S102 := Kd.iso (Kd.pair (Kd.int .i64) (Kd.pair (Kd.int .i64) (Kd.int .i64))) (fun x : S102 => (x.f0, x.f1, x.f2))
theorem k102_open {w : World} {x : S102} {cs : List Value} (h : k102.K w x cs) : cs = [.int .i64 x.f0, .int .i64 x.f1, .int .i64 x.f2] := by
 obtain ⟨_, _, rfl, rfl, ⟨_, _, rfl, rfl, rfl⟩⟩ := h
 exact rfl
theorem Xq (w : World) (base : Nat) (ok : Nat → Prop) (x : S102)  : k102.M w base ok x [.int .i64 x.f0, .int .i64 x.f1, .int .i64 x.f2] := ⟨[.int .i64 x.f0], [.int .i64 x.f1, .int .i64 x.f2], rfl, rfl, ⟨[.int .i64 x.f1], [.int .i64 x.f2], rfl, rfl, rfl⟩⟩
def zo (xs : List S102) (i : Int) : S102 := xs.getD i.toNat z102
theorem Yv {w : World} {A : Option Addr} {n : Nat} {xs : List S102} (h : Kd.C k102 w A n xs) (i : Int) (h0 : 0 ≤ i) (h1 : i < n) : ∃ ad , A = some ad ∧ w.cell? (ad.add (i.toNat * 3)) = some (.int .i64 (zo xs i).f0) ∧ w.cell? ⟨(ad.add (i.toNat * 3)).block, (ad.add (i.toNat * 3)).off + 1, none⟩ = some (.int .i64 (zo xs i).f1) ∧ w.cell? ⟨(ad.add (i.toNat * 3)).block, (ad.add (i.toNat * 3)).off + 2, none⟩ = some (.int .i64 (zo xs i).f2) := by
 obtain ⟨ad, c, e, _, hK, hc0⟩ := Kd.C_get h z102 i h0 h1
 have hc : ∀ j u, c[j]? = some u → w.cell? (ad.add (i.toNat * 3 + j)) = some u := hc0
 obtain rfl := k102_open hK
 exact ⟨ad, e, hc 0 _ rfl, by rw [← yj _ _ 1 (by omega)]; exact hc 1 _ rfl, by rw [← yj _ _ 2 (by omega)]; exact hc 2 _ rfl⟩

end Go.Proofs.Ytkbhilhefnahpaa.Print
