/- Texts: cut at a sign. -/
import Derived.Handy
import Derived.Shelf.Lay
import Derived.Shelf.LaySoft
import Derived.Shelf.Small.Strs
import Derived.Shelf.Strings.Count
import Derived.Shelf.Strings.Search3
import Derived.Test.YtmbpaienbmbhfaaDoorPrint0
namespace Go.Proofs.YtmbpaienbmbhfaaDoor.Str
open Go Go.Shelf Go.RowKit Go.Proofs.YtmbpaienbmbhfaaDoor.Print Go.Proofs.YtmbpaienbmbhfaaDoorW.PrintWords Go.Proofs.YtmbpaienbmbhfaaDoorW.PrintLast Go.Proofs.YtmbpaienbmbhfaaDoorW.PrintMore
set_option linter.unusedVariables false
set_option linter.unusedSimpArgs false
shelf_lay Lays.n137 Nm 137 at Tryd as Tryd.lays137
shelf_lay Lays.n138 Nm 138 at Tryd as Tryd.lays138
shelf_lay Lays.n143 Nm 143 at Tryd as Tryd.lays143
theorem IndexByte_calls (s : ByteArray) (c : Int) (w : World) : Calls Tryd.prog 36 #[.string s, .int .u8 c] w fun e w' => e = .returned (.int .i64 (Lib.indexByte s.data.toList c.toNat.toUInt8)) ∧ w' = w := Any.strings_IndexByte Tryd.lays137 s c w
theorem Count_calls (s : ByteArray) (w : World) : Calls Tryd.prog 43 #[.string s, .string ⟨#[47]⟩] w fun e w' => e = .returned (.int .i64 (Lib.countByte s.data.toList 47)) ∧ w' = w := Any.strings_Count_one Tryd.lays138 s 47 w
theorem Index_calls (s : ByteArray) (w : World) : Calls Tryd.prog 44 #[.string s, .string ⟨#[47]⟩] w fun e w' => e = .returned (.int .i64 (Lib.indexByte s.data.toList 47)) ∧ w' = w := Any.strings_Index_one Tryd.lays143 s 47 w
/-- The parts of a text between strokes. -/
def splitL : List UInt8 → List (List UInt8)
  | [] => [[]]
  | c :: r => if c = 47 then [] :: splitL r else match splitL r with
    | h :: t => (c :: h) :: t
    | [] => [[c]]
theorem splitL_len (l : List UInt8) : (splitL l).length = l.count 47 + 1 := by
  induction l with
  | nil => rfl
  | cons c r ih =>
    unfold splitL
    by_cases h : c = 47
    · subst h; rw [if_pos rfl, List.length_cons, ih, List.count_cons_self]
    · rw [if_neg h, List.count_cons_of_ne (by simpa using h)]
      cases hs : splitL r with
      | nil => rw [hs] at ih; simp at ih
      | cons x t => rw [hs] at ih; simpa using ih
theorem splitL_one {l : List UInt8} (h : (47 : UInt8) ∉ l) : splitL l = [l] := by
  induction l with
  | nil => rfl
  | cons c r ih =>
    unfold splitL
    rw [if_neg (fun e => h (by rw [e]; exact List.mem_cons_self ..)), ih (fun x => h (List.mem_cons_of_mem _ x))]
theorem splitL_cut {l : List UInt8} (h : (47 : UInt8) ∈ l) : ∃ m : Nat, Lib.indexByte l 47 = (m : Int) ∧ m < l.length ∧ splitL l = l.take m :: splitL (l.drop (m + 1)) := by
  induction l with
  | nil => cases h
  | cons c r ih =>
    by_cases hc : c = 47
    · subst hc
      exact ⟨0, by simp [Lib.indexByte], by simp, by simp [splitL]⟩
    · obtain ⟨m, h1, h2, h3⟩ := ih ((List.mem_cons.1 h).resolve_left (fun e => hc e.symm))
      refine ⟨m + 1, ?_, by simpa using h2, ?_⟩
      · have hb : (c == 47) = false := by simpa using hc
        have hm : ((m : Int) == -1) = false := by simp
        unfold Lib.indexByte
        rw [hb, h1, hm]
        simp
      · have e : splitL (c :: r) = if c = 47 then [] :: splitL r else match splitL r with | h :: t => (c :: h) :: t | [] => [[c]] := by conv => lhs; unfold splitL
        rw [e, if_neg hc, h3]
        rfl
def mk (l : List UInt8) : ByteArray := ⟨l.toArray⟩
def splitB (s : ByteArray) : List ByteArray := (splitL s.data.toList).map mk
theorem mk_data (s : ByteArray) : mk s.data.toList = s := by cases s; rfl
theorem ext_take (s : ByteArray) (m : Nat) : s.extract 0 m = mk (s.data.toList.take m) := by
  cases s
  simp [mk, ByteArray.ext_iff]
  apply Array.toList_inj.1
  simp [List.extract]
theorem ext_drop (s : ByteArray) (m : Nat) (h : m ≤ s.size) : s.extract m s.size = mk (s.data.toList.drop m) := by
  cases s with | mk d => 
  simp [mk, ByteArray.ext_iff, ByteArray.size]
  apply Array.toList_inj.1
  simp [List.extract]
  rw [List.take_of_length_le (by simp)]
end Go.Proofs.YtmbpaienbmbhfaaDoor.Str
