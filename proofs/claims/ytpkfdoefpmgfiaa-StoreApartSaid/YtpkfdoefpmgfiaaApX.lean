/- StoQ, ApA in one text. -/
import Derived.Test.YtpkfdoefpmgfiaaLwA
import Derived.Test.YtpkfdoefpmgfiaaPrint4
namespace Go.Proofs.Ytpkfdoefpmgfiaa.Sto
open Go Go.RowKit Go.Proofs.Ytpkfdoefpmgfiaa.ML Go.Proofs.Ytpkfdoefpmgfiaa.Mem Go.Proofs.Ytpkfdoefpmgfiaa.Vw Go.Proofs.Ytpkfdoefpmgfiaa.Print Go.Proofs.YtpkfdoefpmgfiaaW.PrintWords Go.Proofs.YtpkfdoefpmgfiaaW.PrintLast Go.Proofs.YtpkfdoefpmgfiaaW.PrintMore
set_option linter.unusedVariables false
set_option linter.unusedSimpArgs false
theorem noted_put (m : List (Int × Bool)) (k i : Int) : noted (ML.put m k true) i = (decide (i = k) || noted m i) := by
  unfold noted
  rw [get_put]
  by_cases h : i = k
  · simp [h]
  · simp [h]
theorem noted_fold (l : List Int) (i : Int) : ∀ m : List (Int × Bool), noted (l.foldl (fun m k => ML.put m k true) m) i = (decide (i ∈ l) || noted m i) := by
  induction l with
  | nil => intro m; simp
  | cons k r ih =>
    intro m
    rw [List.foldl_cons, ih, noted_put, Bool.eq_iff_iff]
    simp
    constructor
    · rintro (h | h | h)
      · exact .inl (.inr h)
      · exact .inl (.inl h)
      · exact .inr h
    · rintro ((h | h) | h)
      · exact .inr (.inl h)
      · exact .inl h
      · exact .inr (.inr h)
theorem noted_note (l : List Int) (i : Int) : noted (noteM l) i = decide (i ∈ l) := by
  unfold noteM
  rw [noted_fold, noted_nil, Bool.or_false]
/-- What a view has taken. -/
structure Own (V : VS) (S : MS) (B N : List Int) : Prop where
  bl : ∀ b : Int, 0 ≤ b ∧ b < 96 → (V.read S (200 + b) == 0) = !decide (b ∈ B)
  nd : ∀ j : Int, 0 ≤ j ∧ j < 24 → (V.read S (8 + 8 * j) % 256 != 0) = decide (j ∈ N)
theorem avoid_read (V : VS) (S : MS) (l m : List Int) (i : Int) : (V.avoid l m).read S i = V.read S i := rfl
theorem avoid_away (V : VS) (l m : List Int) : (V.avoid l m).away = noteM l := rfl
theorem avoid_awayN (V : VS) (l m : List Int) : (V.avoid l m).awayN = noteM m := rfl
theorem Own.new {S : MS} (h : Clean S) : Own newV S [] [] := by
  have e : ∀ i, newV.read S i = S.read i := fun i => rfl
  refine ⟨fun b hb => ?_, fun j hj => ?_⟩
  · rw [e, h.2 _ (by omega) (by omega)]; rfl
  · rw [e, h.2 _ (by omega) (by omega)]; rfl
theorem Own.avoid {V : VS} {S : MS} {B N : List Int} (h : Own V S B N) (l m : List Int) : Own (V.avoid l m) S B N :=
  ⟨fun b hb => by rw [avoid_read]; exact h.bl b hb, fun j hj => by rw [avoid_read]; exact h.nd j hj⟩
theorem Own.take {V : VS} {S : MS} {B N : List Int} (h : Own V S B N) (m : Int) (hm : 0 ≤ m ∧ m < 96) : Own (VS.take V m 1) S (B ++ [m]) N := by
  refine ⟨fun b hb => ?_, fun j hj => ?_⟩
  · rw [read_take _ _ _ _ _ hm (by omega)]
    by_cases e : b = m
    · subst e
      rw [if_pos rfl]
      simp
    · rw [if_neg (by omega), h.bl b hb]
      simp [e]
  · rw [read_take _ _ _ _ _ hm (by omega), if_neg (by omega)]
    exact h.nd j hj
theorem Own.node {V : VS} {S : MS} {B N : List Int} (h : Own V S B N) (m : Int) (hm : 0 ≤ m ∧ m < 24) : Own (VS.node V S m 2) S B (N ++ [m]) := by
  unfold VS.node
  refine ⟨fun b hb => ?_, fun j hj => ?_⟩
  · rw [read_set _ _ _ _ rfl, if_neg (by omega)]
    exact h.bl b hb
  · rw [read_set _ _ _ _ rfl]
    by_cases e : j = m
    · subst e
      rw [if_pos (by omega)]
      have e1 : (8 + 8 * j - (8 + 8 * j)).toNat = 0 := by omega
      rw [e1]
      simp [cardW]
    · rw [if_neg (by omega), h.nd j hj]
      simp [e]
theorem Own.fresh {V : VS} {S : MS} {B N : List Int} (h : Own V S B N) (hS : Clean S) (l m : List Int) (b : Int) (hb : 0 ≤ b ∧ b < 96) : (V.avoid l m).fresh S b = (!decide (b ∈ B) && !decide (b ∈ l)) := by
  unfold VS.fresh
  rw [avoid_read, avoid_away, h.bl b hb, hS.2 _ (by omega) (by omega), decide_eq_true hb, noted_note]
  rfl
theorem Own.used {V : VS} {S : MS} {B N : List Int} (h : Own V S B N) (l m : List Int) (j : Int) (hj : 0 ≤ j ∧ j < 24) : VS.usedN (V.avoid l m) S j = (decide (j ∈ N) || decide (j ∈ m)) := by
  unfold VS.usedN
  rw [avoid_read, avoid_awayN, h.nd j hj, noted_note]
/-- Two lists that have nothing in common. -/
structure Two (lo hi : Int) (L M : List Int) : Prop where
  nl : L.Nodup
  nm : M.Nodup
  ap : ∀ x ∈ L, x ∉ M
  rl : ∀ x ∈ L, lo ≤ x ∧ x < hi
  rm : ∀ x ∈ M, lo ≤ x ∧ x < hi
theorem Two.nil (lo hi : Int) : Two lo hi [] [] := ⟨List.nodup_nil, List.nodup_nil, (fun x hx => by cases hx), (fun x hx => by cases hx), (fun x hx => by cases hx)⟩
theorem Two.swap {lo hi : Int} {L M : List Int} (h : Two lo hi L M) : Two lo hi M L := ⟨h.nm, h.nl, fun x hx hl => h.ap x hl hx, h.rm, h.rl⟩
theorem Two.add {lo hi : Int} {L M : List Int} (h : Two lo hi L M) {x : Int} (hl : x ∉ L) (hm : x ∉ M) (hx : lo ≤ x ∧ x < hi) : Two lo hi (L ++ [x]) M := by
  refine ⟨?_, h.nm, ?_, ?_, h.rm⟩
  · rw [List.nodup_append]
    refine ⟨h.nl, by simp, ?_⟩
    intro a ha b hb e
    obtain rfl : b = x := by simpa using hb
    exact hl (e ▸ ha)
  · intro y hy
    rcases List.mem_append.1 hy with hy | hy
    · exact h.ap y hy
    · obtain rfl : y = x := by simpa using hy
      exact hm
  · intro y hy
    rcases List.mem_append.1 hy with hy | hy
    · exact h.rl y hy
    · obtain rfl : y = x := by simpa using hy
      exact hx
theorem sub_len : ∀ (a b : List Int), a.Nodup → (∀ x ∈ a, x ∈ b) → a.length ≤ b.length
  | [], _, _, _ => by simp
  | x :: r, b, hn, hs => by
    obtain ⟨h1, h2⟩ := List.nodup_cons.1 hn
    have hx := hs x (by simp)
    have := sub_len r (b.erase x) h2 (fun y hy => by
      have hne : y ≠ x := fun e => h1 (e ▸ hy)
      exact (List.mem_erase_of_ne hne).2 (hs y (by simp [hy])))
    rw [List.length_erase_of_mem hx] at this
    have hp : 0 < b.length := List.length_pos_of_mem hx
    simp
    omega
def rangeI (lo : Int) (n : Nat) : List Int := (List.range n).map fun i : Nat => lo + i
theorem mem_rangeI {lo : Int} {n : Nat} {x : Int} : x ∈ rangeI lo n ↔ lo ≤ x ∧ x < lo + n := by
  unfold rangeI
  rw [List.mem_map]
  constructor
  · rintro ⟨i, hi, rfl⟩
    have := List.mem_range.1 hi
    omega
  · intro h
    exact ⟨(x - lo).toNat, List.mem_range.2 (by omega), by omega⟩
theorem nodup_rangeI (lo : Int) (n : Nat) : (rangeI lo n).Nodup := by
  unfold rangeI
  rw [List.nodup_iff_pairwise_ne, List.pairwise_map]
  exact List.nodup_range.imp fun h e => h (by omega)
theorem Two.full {lo : Int} {n : Nat} {L M : List Int} (h : Two lo (lo + n) L M) (hf : ∀ x, lo ≤ x → x < lo + n → x ∈ L ∨ x ∈ M) : L.length + M.length = n := by
  have hnd : (L ++ M).Nodup := by
    rw [List.nodup_append]
    exact ⟨h.nl, h.nm, fun a ha b hb e => h.ap a ha (e ▸ hb)⟩
  have h1 := sub_len (L ++ M) (rangeI lo n) hnd (fun x hx => by
    rcases List.mem_append.1 hx with hx | hx
    · exact mem_rangeI.2 (h.rl x hx)
    · exact mem_rangeI.2 (h.rm x hx))
  have h2 := sub_len (rangeI lo n) (L ++ M) (nodup_rangeI lo n) (fun x hx => by
    have := mem_rangeI.1 hx
    exact List.mem_append.2 (hf x this.1 this.2))
  unfold rangeI at h1 h2
  rw [List.length_append, List.length_map, List.length_range] at h1 h2
  omega
/-! ### Has -/
theorem Has_l0 (l : List Int) (n : Int) (hl : l.length ≤ 9223372036854775807) : ∀ (d i : Nat), i + d = l.length → ∃ k, escritoireref08_Has.l0 k l n (i : Int) = some (decide (n ∈ l.drop i)) := by
  intro d
  induction d with
  | zero =>
    intro i hi
    refine ⟨1, ?_⟩
    simp only [escritoireref08_Has.l0]
    rw [if_neg (by omega), List.drop_of_length_le (by omega)]
    simp
  | succ d ih =>
    intro i hi
    obtain ⟨k, hk⟩ := ih (i + 1) (by omega)
    refine ⟨k + 1, ?_⟩
    have hd : l.drop i = l[i]'(by omega) :: l.drop (i + 1) := List.drop_eq_getElem_cons (by omega)
    have hr : rd l (i : Int) = l[i]'(by omega) := by unfold rd; simp [show i < l.length by omega]
    have hw : wrap64 ((i : Int) + 1) = ((i + 1 : Nat) : Int) := by unfold wrap64; omega
    simp only [escritoireref08_Has.l0]
    rw [if_pos (by omega), if_pos (by omega), hr, hw, hd]
    by_cases e : l[i]'(by omega) = n
    · rw [if_pos e]
      exact congrArg some (decide_eq_true (by rw [e]; exact List.mem_cons_self)).symm
    · rw [if_neg e, hk]
      exact congrArg some (decide_eq_decide.2 ⟨fun h => List.mem_cons_of_mem _ h, fun h => (List.mem_cons.1 h).resolve_left (Ne.symm e)⟩)
theorem Has_as {w : World} {A : Option Addr} {c : Nat} {l : List Int} {n : Int} (m : Nat) (hm : l.length = m) (hC : Kd.C (Kd.int .i64) w A m l) (hc : m ≤ c) (b : Bool) (hb : decide (n ∈ l) = b) :
    Calls Try.prog 14 #[.slice A m c, .int .i64 n] w fun e w' => e = .returned (.bool b) ∧ Below w.heap.size w w' := by
  subst hm
  obtain ⟨k, hk⟩ := Has_l0 l n (by have := hC.2.1; unfold maxLen at this; omega) l.length 0 (by omega)
  rw [List.drop_zero, hb] at hk
  exact (escritoireref08_Has.calls k A c l n b w hC hc hk).mono fun e w' h => ⟨h.1, h.2.below⟩
end Go.Proofs.Ytpkfdoefpmgfiaa.Sto
namespace Go.Proofs.Ytpkfdoefpmgfiaa.Sto
open Go Go.RowKit Go.Proofs.Ytpkfdoefpmgfiaa.ML Go.Proofs.Ytpkfdoefpmgfiaa.Mem Go.Proofs.Ytpkfdoefpmgfiaa.Vw Go.Proofs.Ytpkfdoefpmgfiaa.Print Go.Proofs.YtpkfdoefpmgfiaaW.PrintWords Go.Proofs.YtpkfdoefpmgfiaaW.PrintLast Go.Proofs.YtpkfdoefpmgfiaaW.PrintMore
set_option linter.unusedVariables false
set_option linter.unusedSimpArgs false
abbrev RowC (w : World) (base : Nat) (col : Nat → Nat) (a : Nat) (v : Value) (l : List Int) : Prop := Kd.R (Kd.int .i64) 3 w base (fun k => col k = a) v l
/-- All blocks behind n have the colour a. -/
def recol (col : Nat → Nat) (n a : Nat) (k : Nat) : Nat := if k < n then col k else a
theorem recol_old {col : Nat → Nat} {n a k : Nat} (h : k < n) : recol col n a k = col k := if_pos h
theorem recol_new {col : Nat → Nat} {n a k : Nat} (h : n ≤ k) : recol col n a k = a := if_neg (by omega)
theorem RowC.recol {w : World} {base : Nat} {col : Nat → Nat} {a : Nat} {v : Value} {l : List Int} (h : RowC w base col a v l) (n b : Nat) (hn : w.heap.size ≤ n) : RowC w base (recol col n b) a v l :=
  Kd.R_mono (Kd.R_bound h) fun k hk => by rw [recol_old (by omega)]; exact hk.1
/-- A turn of blocks of other colours leaves a row. -/
theorem RowC.turn {w w' : World} {base : Nat} {col : Nat → Nat} {a : Nat} {v : Value} {l : List Int} (h : RowC w base col a v l) {L : List Nat} (t : Turn L w w') (hL : ∀ b ∈ L, col b ≠ a) : RowC w' base col a v l := by
  obtain ⟨h0, inner, ho, hr⟩ := h
  refine ⟨h0, inner, ?_, hr⟩
  obtain ⟨h1, h2 | ⟨g, cap, cur, hv, hb, hh, h3, h4, h5, h6⟩⟩ := ho
  · exact ⟨h1, .inl h2⟩
  · refine ⟨h1, .inr ⟨g, cap, cur, hv, hb, ?_, h3, h4, h5, h6⟩⟩
    rw [t.block g (Array.getElem?_eq_some_iff.1 hh).1 (fun hm => hL g hm (h0 g (by rw [hv]; rfl)))]
    exact hh
theorem RowC.below {w w' : World} {base : Nat} {col : Nat → Nat} {a : Nat} {v : Value} {l : List Int} (h : RowC w base col a v l) (hb : Below w.heap.size w w') : RowC w' base col a v l :=
  h.turn (L := []) (Turn.of_below hb []) (fun b hb => by cases hb)
structure St (w0 w : World) (col : Nat → Nat) (f : Fp) (gv gb gn : Nat) (p q : Vp) (V W : VS) (s t u v : Value) (B C N M : List Int) : Prop where
  mem : IsMem w f S0
  vp : IsView w p f V
  vq : IsView w q f W
  av : w.heap[gv]? = some (.cells #[vptr p, vptr q] 29 (0, 0))
  ab : w.heap[gb]? = some (.cells #[s, t] 32 (0, 0))
  an : w.heap[gn]? = some (.cells #[u, v] 32 (0, 0))
  rs : RowC w w0.heap.size col 0 s B
  rt : RowC w w0.heap.size col 1 t C
  ru : RowC w w0.heap.size col 2 u N
  rv : RowC w w0.heap.size col 3 v M
  cf : ∀ x ∈ f.list, col x = 4
  cp : ∀ x ∈ p.list, col x = 5 ∧ w0.heap.size ≤ x
  cq : ∀ x ∈ q.list, col x = 6 ∧ w0.heap.size ≤ x
  cv : col gv = 7 ∧ w0.heap.size ≤ gv
  cb : col gb = 8 ∧ w0.heap.size ≤ gb
  cn : col gn = 9 ∧ w0.heap.size ≤ gn
  be : Below w0.heap.size w0 w
section
variable {w0 w w' : World} {col : Nat → Nat} {f : Fp} {gv gb gn : Nat} {p q : Vp} {V W : VS} {s t u v : Value} {B C N M : List Int}
theorem St.paint (h : St w0 w col f gv gb gn p q V W s t u v B C N M) (n a : Nat) (hn : w.heap.size ≤ n) : St w0 w (recol col n a) f gv gb gn p q V W s t u v B C N M := by
  have lt : ∀ {g : Nat} {c : Array Value} {e : TypeId}, w.heap[g]? = some (.cells c e (0, 0)) → g < n := fun hg => Nat.lt_of_lt_of_le (Array.getElem?_eq_some_iff.1 hg).1 hn
  exact ⟨h.mem, h.vp, h.vq, h.av, h.ab, h.an, h.rs.recol n a hn, h.rt.recol n a hn, h.ru.recol n a hn, h.rv.recol n a hn,
    fun x hx => by rw [recol_old (Nat.lt_of_lt_of_le (h.mem.lts x hx) hn)]; exact h.cf x hx,
    fun x hx => by rw [recol_old (Nat.lt_of_lt_of_le (h.vp.lts x hx) hn)]; exact h.cp x hx,
    fun x hx => by rw [recol_old (Nat.lt_of_lt_of_le (h.vq.lts x hx) hn)]; exact h.cq x hx,
    by rw [recol_old (lt h.av)]; exact h.cv, by rw [recol_old (lt h.ab)]; exact h.cb, by rw [recol_old (lt h.an)]; exact h.cn,
    h.be⟩
/-- Blocks of other colours have turned. -/
theorem keep_block {L : List Nat} (tr : Turn L w w') {g : Nat} {o : Obj} (hg : w.heap[g]? = some o) (hL : ∀ b ∈ L, col b ≠ col g) : w'.heap[g]? = some o := by
  rw [tr.block g (Array.getElem?_eq_some_iff.1 hg).1 (fun hm => hL g hm rfl)]
  exact hg
/-- The first view has turned, in blocks of its own. -/
theorem St.turnP (h : St w0 w col f gv gb gn p q V W s t u v B C N M) {L : List Nat} (tr : Turn L w w') (hL : ∀ b ∈ L, col b = 5 ∧ w0.heap.size ≤ b) {p' : Vp} {V' : VS} (hp : IsView w' p' f V') (he : vptr p' = vptr p) (hc : ∀ x ∈ p'.list, col x = 5 ∧ w0.heap.size ≤ x) :
    St w0 w' col f gv gb gn p' q V' W s t u v B C N M := by
  have ne : ∀ a, a ≠ 5 → ∀ b ∈ L, col b ≠ a := fun a ha b hb e => ha (by rw [← e]; exact (hL b hb).1)
  refine ⟨h.mem.kept tr fun b hb hm => ?_, hp, h.vq.kept tr fun b hb hm => ?_, ?_, ?_, ?_, h.rs.turn tr (ne 0 (by omega)), h.rt.turn tr (ne 1 (by omega)), h.ru.turn tr (ne 2 (by omega)), h.rv.turn tr (ne 3 (by omega)), h.cf, hc, h.cq, h.cv, h.cb, h.cn,
    h.be.trans (tr.below h.be.size (fun x hx => (hL x hx).2))⟩
  · have := h.cf b hb; have := (hL b hm).1; omega
  · have := (h.cq b hb).1; have := (hL b hm).1; omega
  · rw [he]; exact keep_block (col := col) tr h.av (by rw [h.cv.1]; exact ne 7 (by omega))
  · exact keep_block (col := col) tr h.ab (by rw [h.cb.1]; exact ne 8 (by omega))
  · exact keep_block (col := col) tr h.an (by rw [h.cn.1]; exact ne 9 (by omega))
theorem St.turnQ (h : St w0 w col f gv gb gn p q V W s t u v B C N M) {L : List Nat} (tr : Turn L w w') (hL : ∀ b ∈ L, col b = 6 ∧ w0.heap.size ≤ b) {q' : Vp} {W' : VS} (hq : IsView w' q' f W') (he : vptr q' = vptr q) (hc : ∀ x ∈ q'.list, col x = 6 ∧ w0.heap.size ≤ x) :
    St w0 w' col f gv gb gn p q' V W' s t u v B C N M := by
  have ne : ∀ a, a ≠ 6 → ∀ b ∈ L, col b ≠ a := fun a ha b hb e => ha (by rw [← e]; exact (hL b hb).1)
  refine ⟨h.mem.kept tr fun b hb hm => ?_, h.vp.kept tr fun b hb hm => ?_, hq, ?_, ?_, ?_, h.rs.turn tr (ne 0 (by omega)), h.rt.turn tr (ne 1 (by omega)), h.ru.turn tr (ne 2 (by omega)), h.rv.turn tr (ne 3 (by omega)), h.cf, h.cp, hc, h.cv, h.cb, h.cn,
    h.be.trans (tr.below h.be.size (fun x hx => (hL x hx).2))⟩
  · have := h.cf b hb; have := (hL b hm).1; omega
  · have := (h.cp b hb).1; have := (hL b hm).1; omega
  · rw [he]; exact keep_block (col := col) tr h.av (by rw [h.cv.1]; exact ne 7 (by omega))
  · exact keep_block (col := col) tr h.ab (by rw [h.cb.1]; exact ne 8 (by omega))
  · exact keep_block (col := col) tr h.an (by rw [h.cn.1]; exact ne 9 (by omega))
theorem St.below (h : St w0 w col f gv gb gn p q V W s t u v B C N M) (hb : Below w.heap.size w w') : St w0 w' col f gv gb gn p q V W s t u v B C N M :=
  h.turnP (L := []) (Turn.of_below hb []) (fun b hb => by cases hb) (h.vp.below hb) rfl h.cp
/-- The first view avoids what the second one has. -/
theorem St.avoidP (h : St w0 w col f gv gb gn p q V W s t u v B C N M) {b1 b2 : Nat} (h1 : w.heap.size ≤ b1) (h2 : w.heap.size ≤ b2) (hv : IsView w' (p.avoid b1 b2) f (V.avoid C M)) (tr : Turn [p.p] w w') :
    St w0 w' (recol col w.heap.size 5) f gv gb gn (p.avoid b1 b2) q (V.avoid C M) W s t u v B C N M := by
  have h' := h.paint w.heap.size 5 (Nat.le_refl _)
  have hs := h.be.size
  refine h'.turnP (L := [p.p]) tr (fun b hb => ?_) hv rfl (fun x hx => ?_)
  · obtain rfl : b = p.p := by simpa using hb
    exact h'.cp _ (by simp [Vp.list])
  · have : x ∈ p.list ∨ x = b1 ∨ x = b2 := by
      simp [Vp.list, Vp.avoid] at hx ⊢
      rcases hx with h | h | h | h | h | h <;> simp [h]
    rcases this with hx | rfl | rfl
    · exact h'.cp x hx
    · exact ⟨recol_new h1, by omega⟩
    · exact ⟨recol_new h2, by omega⟩
theorem St.avoidQ (h : St w0 w col f gv gb gn p q V W s t u v B C N M) {b1 b2 : Nat} (h1 : w.heap.size ≤ b1) (h2 : w.heap.size ≤ b2) (hv : IsView w' (q.avoid b1 b2) f (W.avoid B N)) (tr : Turn [q.p] w w') :
    St w0 w' (recol col w.heap.size 6) f gv gb gn p (q.avoid b1 b2) V (W.avoid B N) s t u v B C N M := by
  have h' := h.paint w.heap.size 6 (Nat.le_refl _)
  have hs := h.be.size
  refine h'.turnQ (L := [q.p]) tr (fun b hb => ?_) hv rfl (fun x hx => ?_)
  · obtain rfl : b = q.p := by simpa using hb
    exact h'.cq _ (by simp [Vp.list])
  · have : x ∈ q.list ∨ x = b1 ∨ x = b2 := by
      simp [Vp.list, Vp.avoid] at hx ⊢
      rcases hx with h | h | h | h | h | h <;> simp [h]
    rcases this with hx | rfl | rfl
    · exact h'.cq x hx
    · exact ⟨recol_new h1, by omega⟩
    · exact ⟨recol_new h2, by omega⟩
theorem turn_row {w w' : World} {o : Option Nat} (h : w.grownBy w' o) : Turn o.toList w w' := by
  cases o with
  | none => exact Turn.of_grown0 h _
  | some b => exact Turn.of_grown h
theorem St.addS (h : St w0 w col f gv gb gn p q V W s t u v B C N M) {z : Value} {x : Int} {w1 : World} (hz : RowC w1 w0.heap.size col 0 z (B ++ [x])) (hg : w.grownBy w1 s.ownBlock) (hb : Below w0.heap.size w0 w1) :
    St w0 (w1.setCell ⟨gb, 0, none⟩ z) col f gv gb gn p q V W z t u v (B ++ [x]) C N M := by
  have t1 := turn_row hg
  have t2 := Turn.setCell w1 ⟨gb, 0, none⟩ z
  have in1 : ∀ b ∈ [(⟨gb, 0, none⟩ : Addr).block], col b = 8 := fun b hb => by have e : b = gb := (by simpa using hb); rw [e]; exact h.cb.1
  have ht1 : ∀ b ∈ s.ownBlock.toList, col b = 0 := fun b hb => h.rs.1 b (by simpa using hb)
  have nr : ∀ a, a ≠ 0 → ∀ b ∈ s.ownBlock.toList, col b ≠ a := fun a ha b hb e => ha (by rw [← e]; exact ht1 b hb)
  have h1 : w1.heap[gb]? = some (.cells #[s, t] 32 (0, 0)) := keep_block (col := col) t1 h.ab (by rw [h.cb.1]; exact nr 8 (by omega))
  have hset : (w1.setCell ⟨gb, 0, none⟩ z).heap[gb]? = some (.cells #[z, t] 32 (0, 0)) := heap_set_same z h1
  have hs := hb.size
  have far : ∀ y, col y ≠ 0 → col y ≠ 8 → y < w.heap.size → (w1.setCell ⟨gb, 0, none⟩ z).heap[y]? = w.heap[y]? := fun y hy1 hy2 hlt => by
    rw [Below.heap_setCell w1 ⟨gb, 0, none⟩ z y (fun e => hy2 (by rw [e]; exact h.cb.1)), t1.block y hlt (fun hm => hy1 (ht1 y hm))]
  refine ⟨h.mem.of_blocks (by have := t1.size; have := t2.size; omega) fun y hy => far y (by rw [h.cf y hy]; omega) (by rw [h.cf y hy]; omega) (h.mem.lts y hy),
    h.vp.of_blocks fun y hy => far y (by rw [(h.cp y hy).1]; omega) (by rw [(h.cp y hy).1]; omega) (h.vp.lts y hy),
    h.vq.of_blocks fun y hy => far y (by rw [(h.cq y hy).1]; omega) (by rw [(h.cq y hy).1]; omega) (h.vq.lts y hy),
    keep_block (col := col) t2 (keep_block (col := col) t1 h.av (by rw [h.cv.1]; exact nr 7 (by omega))) (fun b hb => by rw [in1 b hb, h.cv.1]; omega), hset, keep_block (col := col) t2 (keep_block (col := col) t1 h.an (by rw [h.cn.1]; exact nr 9 (by omega))) (fun b hb => by rw [in1 b hb, h.cn.1]; omega),
    hz.turn t2 (fun b hb => by rw [in1 b hb]; omega),
    (h.rt.turn t1 (nr 1 (by omega))).turn t2 (fun b hb => by rw [in1 b hb]; omega),
    (h.ru.turn t1 (nr 2 (by omega))).turn t2 (fun b hb => by rw [in1 b hb]; omega),
    (h.rv.turn t1 (nr 3 (by omega))).turn t2 (fun b hb => by rw [in1 b hb]; omega),
    h.cf, h.cp, h.cq, h.cv, h.cb, h.cn, hb.trans (t2.below hb.size (fun y hy => by have e : y = gb := (by simpa using hy); rw [e]; exact h.cb.2))⟩
theorem St.addT (h : St w0 w col f gv gb gn p q V W s t u v B C N M) {z : Value} {x : Int} {w1 : World} (hz : RowC w1 w0.heap.size col 1 z (C ++ [x])) (hg : w.grownBy w1 t.ownBlock) (hb : Below w0.heap.size w0 w1) :
    St w0 (w1.setCell ⟨gb, 1, none⟩ z) col f gv gb gn p q V W s z u v B (C ++ [x]) N M := by
  have t1 := turn_row hg
  have t2 := Turn.setCell w1 ⟨gb, 1, none⟩ z
  have in1 : ∀ b ∈ [(⟨gb, 1, none⟩ : Addr).block], col b = 8 := fun b hb => by have e : b = gb := (by simpa using hb); rw [e]; exact h.cb.1
  have ht1 : ∀ b ∈ t.ownBlock.toList, col b = 1 := fun b hb => h.rt.1 b (by simpa using hb)
  have nr : ∀ a, a ≠ 1 → ∀ b ∈ t.ownBlock.toList, col b ≠ a := fun a ha b hb e => ha (by rw [← e]; exact ht1 b hb)
  have h1 : w1.heap[gb]? = some (.cells #[s, t] 32 (0, 0)) := keep_block (col := col) t1 h.ab (by rw [h.cb.1]; exact nr 8 (by omega))
  have hset : (w1.setCell ⟨gb, 1, none⟩ z).heap[gb]? = some (.cells #[s, z] 32 (0, 0)) := heap_set_same z h1
  have hs := hb.size
  have far : ∀ y, col y ≠ 1 → col y ≠ 8 → y < w.heap.size → (w1.setCell ⟨gb, 1, none⟩ z).heap[y]? = w.heap[y]? := fun y hy1 hy2 hlt => by
    rw [Below.heap_setCell w1 ⟨gb, 1, none⟩ z y (fun e => hy2 (by rw [e]; exact h.cb.1)), t1.block y hlt (fun hm => hy1 (ht1 y hm))]
  refine ⟨h.mem.of_blocks (by have := t1.size; have := t2.size; omega) fun y hy => far y (by rw [h.cf y hy]; omega) (by rw [h.cf y hy]; omega) (h.mem.lts y hy),
    h.vp.of_blocks fun y hy => far y (by rw [(h.cp y hy).1]; omega) (by rw [(h.cp y hy).1]; omega) (h.vp.lts y hy),
    h.vq.of_blocks fun y hy => far y (by rw [(h.cq y hy).1]; omega) (by rw [(h.cq y hy).1]; omega) (h.vq.lts y hy),
    keep_block (col := col) t2 (keep_block (col := col) t1 h.av (by rw [h.cv.1]; exact nr 7 (by omega))) (fun b hb => by rw [in1 b hb, h.cv.1]; omega), hset, keep_block (col := col) t2 (keep_block (col := col) t1 h.an (by rw [h.cn.1]; exact nr 9 (by omega))) (fun b hb => by rw [in1 b hb, h.cn.1]; omega),
    (h.rs.turn t1 (nr 0 (by omega))).turn t2 (fun b hb => by rw [in1 b hb]; omega),
    hz.turn t2 (fun b hb => by rw [in1 b hb]; omega),
    (h.ru.turn t1 (nr 2 (by omega))).turn t2 (fun b hb => by rw [in1 b hb]; omega),
    (h.rv.turn t1 (nr 3 (by omega))).turn t2 (fun b hb => by rw [in1 b hb]; omega),
    h.cf, h.cp, h.cq, h.cv, h.cb, h.cn, hb.trans (t2.below hb.size (fun y hy => by have e : y = gb := (by simpa using hy); rw [e]; exact h.cb.2))⟩
theorem St.addU (h : St w0 w col f gv gb gn p q V W s t u v B C N M) {z : Value} {x : Int} {w1 : World} (hz : RowC w1 w0.heap.size col 2 z (N ++ [x])) (hg : w.grownBy w1 u.ownBlock) (hb : Below w0.heap.size w0 w1) :
    St w0 (w1.setCell ⟨gn, 0, none⟩ z) col f gv gb gn p q V W s t z v B C (N ++ [x]) M := by
  have t1 := turn_row hg
  have t2 := Turn.setCell w1 ⟨gn, 0, none⟩ z
  have in1 : ∀ b ∈ [(⟨gn, 0, none⟩ : Addr).block], col b = 9 := fun b hb => by have e : b = gn := (by simpa using hb); rw [e]; exact h.cn.1
  have ht1 : ∀ b ∈ u.ownBlock.toList, col b = 2 := fun b hb => h.ru.1 b (by simpa using hb)
  have nr : ∀ a, a ≠ 2 → ∀ b ∈ u.ownBlock.toList, col b ≠ a := fun a ha b hb e => ha (by rw [← e]; exact ht1 b hb)
  have h1 : w1.heap[gn]? = some (.cells #[u, v] 32 (0, 0)) := keep_block (col := col) t1 h.an (by rw [h.cn.1]; exact nr 9 (by omega))
  have hset : (w1.setCell ⟨gn, 0, none⟩ z).heap[gn]? = some (.cells #[z, v] 32 (0, 0)) := heap_set_same z h1
  have hs := hb.size
  have far : ∀ y, col y ≠ 2 → col y ≠ 9 → y < w.heap.size → (w1.setCell ⟨gn, 0, none⟩ z).heap[y]? = w.heap[y]? := fun y hy1 hy2 hlt => by
    rw [Below.heap_setCell w1 ⟨gn, 0, none⟩ z y (fun e => hy2 (by rw [e]; exact h.cn.1)), t1.block y hlt (fun hm => hy1 (ht1 y hm))]
  refine ⟨h.mem.of_blocks (by have := t1.size; have := t2.size; omega) fun y hy => far y (by rw [h.cf y hy]; omega) (by rw [h.cf y hy]; omega) (h.mem.lts y hy),
    h.vp.of_blocks fun y hy => far y (by rw [(h.cp y hy).1]; omega) (by rw [(h.cp y hy).1]; omega) (h.vp.lts y hy),
    h.vq.of_blocks fun y hy => far y (by rw [(h.cq y hy).1]; omega) (by rw [(h.cq y hy).1]; omega) (h.vq.lts y hy),
    keep_block (col := col) t2 (keep_block (col := col) t1 h.av (by rw [h.cv.1]; exact nr 7 (by omega))) (fun b hb => by rw [in1 b hb, h.cv.1]; omega), keep_block (col := col) t2 (keep_block (col := col) t1 h.ab (by rw [h.cb.1]; exact nr 8 (by omega))) (fun b hb => by rw [in1 b hb, h.cb.1]; omega), hset,
    (h.rs.turn t1 (nr 0 (by omega))).turn t2 (fun b hb => by rw [in1 b hb]; omega),
    (h.rt.turn t1 (nr 1 (by omega))).turn t2 (fun b hb => by rw [in1 b hb]; omega),
    hz.turn t2 (fun b hb => by rw [in1 b hb]; omega),
    (h.rv.turn t1 (nr 3 (by omega))).turn t2 (fun b hb => by rw [in1 b hb]; omega),
    h.cf, h.cp, h.cq, h.cv, h.cb, h.cn, hb.trans (t2.below hb.size (fun y hy => by have e : y = gn := (by simpa using hy); rw [e]; exact h.cn.2))⟩
theorem St.addV (h : St w0 w col f gv gb gn p q V W s t u v B C N M) {z : Value} {x : Int} {w1 : World} (hz : RowC w1 w0.heap.size col 3 z (M ++ [x])) (hg : w.grownBy w1 v.ownBlock) (hb : Below w0.heap.size w0 w1) :
    St w0 (w1.setCell ⟨gn, 1, none⟩ z) col f gv gb gn p q V W s t u z B C N (M ++ [x]) := by
  have t1 := turn_row hg
  have t2 := Turn.setCell w1 ⟨gn, 1, none⟩ z
  have in1 : ∀ b ∈ [(⟨gn, 1, none⟩ : Addr).block], col b = 9 := fun b hb => by have e : b = gn := (by simpa using hb); rw [e]; exact h.cn.1
  have ht1 : ∀ b ∈ v.ownBlock.toList, col b = 3 := fun b hb => h.rv.1 b (by simpa using hb)
  have nr : ∀ a, a ≠ 3 → ∀ b ∈ v.ownBlock.toList, col b ≠ a := fun a ha b hb e => ha (by rw [← e]; exact ht1 b hb)
  have h1 : w1.heap[gn]? = some (.cells #[u, v] 32 (0, 0)) := keep_block (col := col) t1 h.an (by rw [h.cn.1]; exact nr 9 (by omega))
  have hset : (w1.setCell ⟨gn, 1, none⟩ z).heap[gn]? = some (.cells #[u, z] 32 (0, 0)) := heap_set_same z h1
  have hs := hb.size
  have far : ∀ y, col y ≠ 3 → col y ≠ 9 → y < w.heap.size → (w1.setCell ⟨gn, 1, none⟩ z).heap[y]? = w.heap[y]? := fun y hy1 hy2 hlt => by
    rw [Below.heap_setCell w1 ⟨gn, 1, none⟩ z y (fun e => hy2 (by rw [e]; exact h.cn.1)), t1.block y hlt (fun hm => hy1 (ht1 y hm))]
  refine ⟨h.mem.of_blocks (by have := t1.size; have := t2.size; omega) fun y hy => far y (by rw [h.cf y hy]; omega) (by rw [h.cf y hy]; omega) (h.mem.lts y hy),
    h.vp.of_blocks fun y hy => far y (by rw [(h.cp y hy).1]; omega) (by rw [(h.cp y hy).1]; omega) (h.vp.lts y hy),
    h.vq.of_blocks fun y hy => far y (by rw [(h.cq y hy).1]; omega) (by rw [(h.cq y hy).1]; omega) (h.vq.lts y hy),
    keep_block (col := col) t2 (keep_block (col := col) t1 h.av (by rw [h.cv.1]; exact nr 7 (by omega))) (fun b hb => by rw [in1 b hb, h.cv.1]; omega), keep_block (col := col) t2 (keep_block (col := col) t1 h.ab (by rw [h.cb.1]; exact nr 8 (by omega))) (fun b hb => by rw [in1 b hb, h.cb.1]; omega), hset,
    (h.rs.turn t1 (nr 0 (by omega))).turn t2 (fun b hb => by rw [in1 b hb]; omega),
    (h.rt.turn t1 (nr 1 (by omega))).turn t2 (fun b hb => by rw [in1 b hb]; omega),
    (h.ru.turn t1 (nr 2 (by omega))).turn t2 (fun b hb => by rw [in1 b hb]; omega),
    hz.turn t2 (fun b hb => by rw [in1 b hb]; omega),
    h.cf, h.cp, h.cq, h.cv, h.cb, h.cn, hb.trans (t2.below hb.size (fun y hy => by have e : y = gn := (by simpa using hy); rw [e]; exact h.cn.2))⟩
end
end Go.Proofs.Ytpkfdoefpmgfiaa.Sto
