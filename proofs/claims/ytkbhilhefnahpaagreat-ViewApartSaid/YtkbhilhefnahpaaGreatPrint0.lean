import Derived.Test.YtkbhilhefnahpaaGreatProg
import Derived.Test.YtkbhilhefnahpaaGreatHArr
import Derived.Below
import Derived.Deep.Draws
import Derived.Deep.AppendLies
import Derived.Maps.AppendAt
import Derived.OwnWalk
import Derived.Laws.BytesArg
import Derived.Laws.MakeOwn
import Derived.Laws.OwnMore
import Derived.Deep.OwnRows
import Derived.Tactics
import Derived.Lib.ConvBytes
import Derived.Laws.Slices
import Derived.WalkKit
import Derived.KernelRfl
import Derived.RowKit3
import Derived.Deep.LoopGhost
import Derived.Deep.QuietTactic
import Derived.BigQuiet
import Derived.WideLaws
import Derived.Deep.DeepCutAuto
import Derived.Deep.CutBlock
import Derived.Deep.RegionHeld3
import Derived.Laws.Rows
import Derived.Lib.AppendStr
import Derived.ArgAppend
import Derived.Laws.IdiomCopy
import Derived.OrdersHeld
import Derived.Laws.BitsLemmas
import Derived.RowKit
import Derived.Test.YtkbhilhefnahpaaGreatWWords
import Derived.Test.YtkbhilhefnahpaaGreatWLast
import Derived.Test.YtkbhilhefnahpaaGreatWX
namespace Go.Proofs.YtkbhilhefnahpaaGreat.Print
open Go.RowKit Go.Proofs.YtkbhilhefnahpaaGreatW.PrintWords Go.Proofs.YtkbhilhefnahpaaGreatW.PrintLast Go.Proofs.YtkbhilhefnahpaaGreatW.PrintMore
attribute [local go_sem] yS yR Zq Zp yH yG Zb Za   -- for this text's walks alone
set_option linter.unusedVariables false
set_option linter.unusedSimpArgs false



def errW : Option Int → Value
 | none => .nilIface
 | some c => .iface 0 (.int .i64 c)
theorem zy : errW none = .nilIface := rfl
theorem zx (c : Int) : errW (some c) = .iface 0 (.int .i64 c) := rfl

theorem info3 : (Tryz.prog.info? 3).map (fun i => (i.zero, i.size, i.bytes)) = some (some (.int .i64 0), 1, 8) := by kernel_rfl
theorem YW : (Tryz.prog.info? 34).map (fun i => (i.zero, i.size, i.bytes)) = some (some (.int .u64 0), 1, 8) := by kernel_rfl
theorem info105 : (Tryz.prog.info? 105).map (fun i => (i.zero, i.size, i.bytes)) = some (some (.agg #[(.int .i64 0), (.int .i64 0), (.int .i64 0)]), 3, 24) := by kernel_rfl
/-! #### struct type 82 -/
structure S82 where
 f0 : Int
 f1 : Int
 f2 : Int
 f3 : Int
def z82 : S82 := ⟨(0 : Int), (0 : Int), (0 : Int), (0 : Int)⟩
def k82 : Kd S82 := Kd.iso (Kd.pair (Kd.int .i64) (Kd.pair (Kd.int .i64) (Kd.pair (Kd.int .i64) (Kd.int .i64)))) (fun x : S82 => (x.f0, x.f1, x.f2, x.f3))
theorem k82_open {w : World} {x : S82} {cs : List Value} (h : k82.K w x cs) : cs = [.int .i64 x.f0, .int .i64 x.f1, .int .i64 x.f2, .int .i64 x.f3] := by
 obtain ⟨_, _, rfl, rfl, ⟨_, _, rfl, rfl, ⟨_, _, rfl, rfl, rfl⟩⟩⟩ := h
 exact rfl
theorem k82_openM {w : World} {base : Nat} {ok : Nat → Prop} {x : S82} {cs : List Value} (h : k82.M w base ok x cs) : cs = [.int .i64 x.f0, .int .i64 x.f1, .int .i64 x.f2, .int .i64 x.f3] := by
 obtain ⟨_, _, rfl, rfl, ⟨_, _, rfl, rfl, ⟨_, _, rfl, rfl, rfl⟩⟩⟩ := h
 exact rfl
theorem YS (w : World) (base : Nat) (ok : Nat → Prop) (x : S82)  : k82.M w base ok x [.int .i64 x.f0, .int .i64 x.f1, .int .i64 x.f2, .int .i64 x.f3] := ⟨[.int .i64 x.f0], [.int .i64 x.f1, .int .i64 x.f2, .int .i64 x.f3], rfl, rfl, ⟨[.int .i64 x.f1], [.int .i64 x.f2, .int .i64 x.f3], rfl, rfl, ⟨[.int .i64 x.f2], [.int .i64 x.f3], rfl, rfl, rfl⟩⟩⟩
def zn (xs : List S82) (i : Int) : S82 := xs.getD i.toNat z82
theorem at_T82 {w : World} {A : Option Addr} {n : Nat} {xs : List S82} (h : Kd.C k82 w A n xs) (i : Int) (h0 : 0 ≤ i) (h1 : i < n) : ∃ ad , A = some ad ∧ w.cell? (ad.add (i.toNat * 4)) = some (.int .i64 (zn xs i).f0) ∧ w.cell? ⟨(ad.add (i.toNat * 4)).block, (ad.add (i.toNat * 4)).off + 1, none⟩ = some (.int .i64 (zn xs i).f1) ∧ w.cell? ⟨(ad.add (i.toNat * 4)).block, (ad.add (i.toNat * 4)).off + 2, none⟩ = some (.int .i64 (zn xs i).f2) ∧ w.cell? ⟨(ad.add (i.toNat * 4)).block, (ad.add (i.toNat * 4)).off + 3, none⟩ = some (.int .i64 (zn xs i).f3) := by
 obtain ⟨ad, c, e, _, hK, hc0⟩ := Kd.C_get h z82 i h0 h1
 have hc : ∀ j u, c[j]? = some u → w.cell? (ad.add (i.toNat * 4 + j)) = some u := hc0
 obtain rfl := k82_open hK
 exact ⟨ad, e, hc 0 _ rfl, by rw [← yg _ _ 1 (by omega)]; exact hc 1 _ rfl, by rw [← yg _ _ 2 (by omega)]; exact hc 2 _ rfl, by rw [← yg _ _ 3 (by omega)]; exact hc 3 _ rfl⟩

/-! #### struct type 50 -/
structure S50 where
 f0 : Int
 f1 : Int
def z50 : S50 := ⟨(0 : Int), (0 : Int)⟩
def k50 : Kd S50 := Kd.iso (Kd.pair (Kd.int .i64) (Kd.int .u64)) (fun x : S50 => (x.f0, x.f1))
theorem k50_open {w : World} {x : S50} {cs : List Value} (h : k50.K w x cs) : cs = [.int .i64 x.f0, .int .u64 x.f1] := by
 obtain ⟨_, _, rfl, rfl, rfl⟩ := h
 exact rfl
theorem k50_openM {w : World} {base : Nat} {ok : Nat → Prop} {x : S50} {cs : List Value} (h : k50.M w base ok x cs) : cs = [.int .i64 x.f0, .int .u64 x.f1] := by
 obtain ⟨_, _, rfl, rfl, rfl⟩ := h
 exact rfl
theorem k50_mk (w : World) (x : S50)  : k50.K w x [.int .i64 x.f0, .int .u64 x.f1] := ⟨[.int .i64 x.f0], [.int .u64 x.f1], rfl, rfl, rfl⟩
theorem k50_mkM (w : World) (base : Nat) (ok : Nat → Prop) (x : S50)  : k50.M w base ok x [.int .i64 x.f0, .int .u64 x.f1] := ⟨[.int .i64 x.f0], [.int .u64 x.f1], rfl, rfl, rfl⟩
def yx (xs : List S50) (i : Int) : S50 := xs.getD i.toNat z50
theorem at_T50 {w : World} {A : Option Addr} {n : Nat} {xs : List S50} (h : Kd.C k50 w A n xs) (i : Int) (h0 : 0 ≤ i) (h1 : i < n) : ∃ ad , A = some ad ∧ w.cell? (ad.add (i.toNat * 2)) = some (.int .i64 (yx xs i).f0) ∧ w.cell? ⟨(ad.add (i.toNat * 2)).block, (ad.add (i.toNat * 2)).off + 1, none⟩ = some (.int .u64 (yx xs i).f1) := by
 obtain ⟨ad, c, e, _, hK, hc0⟩ := Kd.C_get h z50 i h0 h1
 have hc : ∀ j u, c[j]? = some u → w.cell? (ad.add (i.toNat * 2 + j)) = some u := hc0
 obtain rfl := k50_open hK
 exact ⟨ad, e, hc 0 _ rfl, by rw [← yg _ _ 1 (by omega)]; exact hc 1 _ rfl⟩

/-! #### struct type 35 -/
structure S35 where
 f0 : Int
 f1 : Int
 f2 : Int
 f3 : Int
 f4 : Int
def z35 : S35 := ⟨(0 : Int), (0 : Int), (0 : Int), (0 : Int), (0 : Int)⟩
def k35 : Kd S35 := Kd.iso (Kd.pair (Kd.int .i64) (Kd.pair (Kd.int .i64) (Kd.pair (Kd.int .i64) (Kd.pair (Kd.int .i64) (Kd.int .i64))))) (fun x : S35 => (x.f0, x.f1, x.f2, x.f3, x.f4))
theorem k35_open {w : World} {x : S35} {cs : List Value} (h : k35.K w x cs) : cs = [.int .i64 x.f0, .int .i64 x.f1, .int .i64 x.f2, .int .i64 x.f3, .int .i64 x.f4] := by
 obtain ⟨_, _, rfl, rfl, ⟨_, _, rfl, rfl, ⟨_, _, rfl, rfl, ⟨_, _, rfl, rfl, rfl⟩⟩⟩⟩ := h
 exact rfl
/-! #### struct type 37 -/
structure S37 where
 f0 : Int
 f1 : Int
 f2 : Int
 f3 : Int
 f4 : S35
 f5 : Int
def z37 : S37 := ⟨(0 : Int), (0 : Int), (0 : Int), (0 : Int), z35, (0 : Int)⟩
def k37 : Kd S37 := Kd.iso (Kd.pair (Kd.int .i64) (Kd.pair (Kd.int .i64) (Kd.pair (Kd.int .i64) (Kd.pair (Kd.int .u64) (Kd.pair k35 (Kd.int .i64)))))) (fun x : S37 => (x.f0, x.f1, x.f2, x.f3, x.f4, x.f5))
theorem k37_open {w : World} {x : S37} {cs : List Value} (h : k37.K w x cs) : cs = [.int .i64 x.f0, .int .i64 x.f1, .int .i64 x.f2, .int .u64 x.f3, .int .i64 x.f4.f0, .int .i64 x.f4.f1, .int .i64 x.f4.f2, .int .i64 x.f4.f3, .int .i64 x.f4.f4, .int .i64 x.f5] := by
 obtain ⟨_, _, rfl, rfl, ⟨_, _, rfl, rfl, ⟨_, _, rfl, rfl, ⟨_, _, rfl, rfl, ⟨_, _, rfl, s4, rfl⟩⟩⟩⟩⟩ := h
 obtain rfl := k35_open s4
 exact rfl
/-! #### struct type 40 -/
structure S40 where
 f0 : Int
 f1 : Int
 f2 : Int
 f3 : S37
 f4 : (List Int)
 f5 : (List Int)
def z40 : S40 := ⟨(0 : Int), (0 : Int), (0 : Int), z37, ([] : List Int), ([] : List Int)⟩
def k40 : Kd S40 := Kd.iso (Kd.pair (Kd.int .i64) (Kd.pair (Kd.int .i64) (Kd.pair (Kd.int .u64) (Kd.pair k37 (Kd.pair (Kd.slice 34 (Kd.int .u64)) (Kd.slice 3 (Kd.int .i64))))))) (fun x : S40 => (x.f0, x.f1, x.f2, x.f3, x.f4, x.f5))
theorem k40_open {w : World} {x : S40} {cs : List Value} (h : k40.K w x cs) : ∃ A13 c13 A14 c14, cs = [.int .i64 x.f0, .int .i64 x.f1, .int .u64 x.f2, .int .i64 x.f3.f0, .int .i64 x.f3.f1, .int .i64 x.f3.f2, .int .u64 x.f3.f3, .int .i64 x.f3.f4.f0, .int .i64 x.f3.f4.f1, .int .i64 x.f3.f4.f2, .int .i64 x.f3.f4.f3, .int .i64 x.f3.f4.f4, .int .i64 x.f3.f5, .slice A13 x.f4.length c13, .slice A14 x.f5.length c14] ∧ x.f4.length ≤ c13 ∧ (Kd.int .u64).C w A13 x.f4.length x.f4 ∧ x.f5.length ≤ c14 ∧ (Kd.int .i64).C w A14 x.f5.length x.f5 := by
 obtain ⟨_, _, rfl, rfl, ⟨_, _, rfl, rfl, ⟨_, _, rfl, rfl, ⟨_, _, rfl, s3, ⟨_, _, rfl, ⟨A13, c13, rfl, l13, g13⟩, ⟨A14, c14, rfl, l14, g14⟩⟩⟩⟩⟩⟩ := h
 obtain rfl := k37_open s3
 exact ⟨A13, c13, A14, c14, rfl, l13, g13, l14, g14⟩
def yP (xs : List S40) (i : Int) : S40 := xs.getD i.toNat z40
theorem at_T40 {w : World} {A : Option Addr} {n : Nat} {xs : List S40} (h : Kd.C k40 w A n xs) (i : Int) (h0 : 0 ≤ i) (h1 : i < n) : ∃ ad A13 c13 A14 c14, A = some ad ∧ w.cell? (ad.add (i.toNat * 15)) = some (.int .i64 (yP xs i).f0) ∧ w.cell? ⟨(ad.add (i.toNat * 15)).block, (ad.add (i.toNat * 15)).off + 1, none⟩ = some (.int .i64 (yP xs i).f1) ∧ w.cell? ⟨(ad.add (i.toNat * 15)).block, (ad.add (i.toNat * 15)).off + 2, none⟩ = some (.int .u64 (yP xs i).f2) ∧ w.cell? ⟨(ad.add (i.toNat * 15)).block, (ad.add (i.toNat * 15)).off + 3, none⟩ = some (.int .i64 (yP xs i).f3.f0) ∧ w.cell? ⟨(ad.add (i.toNat * 15)).block, (ad.add (i.toNat * 15)).off + 4, none⟩ = some (.int .i64 (yP xs i).f3.f1) ∧ w.cell? ⟨(ad.add (i.toNat * 15)).block, (ad.add (i.toNat * 15)).off + 5, none⟩ = some (.int .i64 (yP xs i).f3.f2) ∧ w.cell? ⟨(ad.add (i.toNat * 15)).block, (ad.add (i.toNat * 15)).off + 6, none⟩ = some (.int .u64 (yP xs i).f3.f3) ∧ w.cell? ⟨(ad.add (i.toNat * 15)).block, (ad.add (i.toNat * 15)).off + 7, none⟩ = some (.int .i64 (yP xs i).f3.f4.f0) ∧ w.cell? ⟨(ad.add (i.toNat * 15)).block, (ad.add (i.toNat * 15)).off + 8, none⟩ = some (.int .i64 (yP xs i).f3.f4.f1) ∧ w.cell? ⟨(ad.add (i.toNat * 15)).block, (ad.add (i.toNat * 15)).off + 9, none⟩ = some (.int .i64 (yP xs i).f3.f4.f2) ∧ w.cell? ⟨(ad.add (i.toNat * 15)).block, (ad.add (i.toNat * 15)).off + 10, none⟩ = some (.int .i64 (yP xs i).f3.f4.f3) ∧ w.cell? ⟨(ad.add (i.toNat * 15)).block, (ad.add (i.toNat * 15)).off + 11, none⟩ = some (.int .i64 (yP xs i).f3.f4.f4) ∧ w.cell? ⟨(ad.add (i.toNat * 15)).block, (ad.add (i.toNat * 15)).off + 12, none⟩ = some (.int .i64 (yP xs i).f3.f5) ∧ w.cell? ⟨(ad.add (i.toNat * 15)).block, (ad.add (i.toNat * 15)).off + 13, none⟩ = some (.slice A13 (yP xs i).f4.length c13) ∧ w.cell? ⟨(ad.add (i.toNat * 15)).block, (ad.add (i.toNat * 15)).off + 14, none⟩ = some (.slice A14 (yP xs i).f5.length c14) ∧ (yP xs i).f4.length ≤ c13 ∧ (Kd.int .u64).C w A13 (yP xs i).f4.length (yP xs i).f4 ∧ (yP xs i).f5.length ≤ c14 ∧ (Kd.int .i64).C w A14 (yP xs i).f5.length (yP xs i).f5 := by
 obtain ⟨ad, c, e, _, hK, hc0⟩ := Kd.C_get h z40 i h0 h1
 have hc : ∀ j u, c[j]? = some u → w.cell? (ad.add (i.toNat * 15 + j)) = some u := hc0
 obtain ⟨A13, c13, A14, c14, rfl, l13, g13, l14, g14⟩ := k40_open hK
 exact ⟨ad, A13, c13, A14, c14, e, hc 0 _ rfl, by rw [← yg _ _ 1 (by omega)]; exact hc 1 _ rfl, by rw [← yg _ _ 2 (by omega)]; exact hc 2 _ rfl, by rw [← yg _ _ 3 (by omega)]; exact hc 3 _ rfl, by rw [← yg _ _ 4 (by omega)]; exact hc 4 _ rfl, by rw [← yg _ _ 5 (by omega)]; exact hc 5 _ rfl, by rw [← yg _ _ 6 (by omega)]; exact hc 6 _ rfl, by rw [← yg _ _ 7 (by omega)]; exact hc 7 _ rfl, by rw [← yg _ _ 8 (by omega)]; exact hc 8 _ rfl, by rw [← yg _ _ 9 (by omega)]; exact hc 9 _ rfl, by rw [← yg _ _ 10 (by omega)]; exact hc 10 _ rfl, by rw [← yg _ _ 11 (by omega)]; exact hc 11 _ rfl, by rw [← yg _ _ 12 (by omega)]; exact hc 12 _ rfl, by rw [← yg _ _ 13 (by omega)]; exact hc 13 _ rfl, by rw [← yg _ _ 14 (by omega)]; exact hc 14 _ rfl, l13, g13, l14, g14⟩

/-! #### struct type 105 -/
structure S105 where
 f0 : Int
 f1 : Int
 f2 : Int
def z105 : S105 := ⟨(0 : Int), (0 : Int), (0 : Int)⟩
def k105 : Kd S105 := Kd.iso (Kd.pair (Kd.int .i64) (Kd.pair (Kd.int .i64) (Kd.int .i64))) (fun x : S105 => (x.f0, x.f1, x.f2))
theorem k105_open {w : World} {x : S105} {cs : List Value} (h : k105.K w x cs) : cs = [.int .i64 x.f0, .int .i64 x.f1, .int .i64 x.f2] := by
 obtain ⟨_, _, rfl, rfl, ⟨_, _, rfl, rfl, rfl⟩⟩ := h
 exact rfl
theorem Xb (w : World) (base : Nat) (ok : Nat → Prop) (x : S105)  : k105.M w base ok x [.int .i64 x.f0, .int .i64 x.f1, .int .i64 x.f2] := ⟨[.int .i64 x.f0], [.int .i64 x.f1, .int .i64 x.f2], rfl, rfl, ⟨[.int .i64 x.f1], [.int .i64 x.f2], rfl, rfl, rfl⟩⟩
def zo (xs : List S105) (i : Int) : S105 := xs.getD i.toNat z105
theorem Yk {w : World} {A : Option Addr} {n : Nat} {xs : List S105} (h : Kd.C k105 w A n xs) (i : Int) (h0 : 0 ≤ i) (h1 : i < n) : ∃ ad , A = some ad ∧ w.cell? (ad.add (i.toNat * 3)) = some (.int .i64 (zo xs i).f0) ∧ w.cell? ⟨(ad.add (i.toNat * 3)).block, (ad.add (i.toNat * 3)).off + 1, none⟩ = some (.int .i64 (zo xs i).f1) ∧ w.cell? ⟨(ad.add (i.toNat * 3)).block, (ad.add (i.toNat * 3)).off + 2, none⟩ = some (.int .i64 (zo xs i).f2) := by
 obtain ⟨ad, c, e, _, hK, hc0⟩ := Kd.C_get h z105 i h0 h1
 have hc : ∀ j u, c[j]? = some u → w.cell? (ad.add (i.toNat * 3 + j)) = some u := hc0
 obtain rfl := k105_open hK
 exact ⟨ad, e, hc 0 _ rfl, by rw [← yg _ _ 1 (by omega)]; exact hc 1 _ rfl, by rw [← yg _ _ 2 (by omega)]; exact hc 2 _ rfl⟩

end Go.Proofs.YtkbhilhefnahpaaGreat.Print
