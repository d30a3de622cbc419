/- Texts that stand together: Came, Term, Makes, Light, Backward, Layer, Round, Held, Held2, Held3, RLight. -/
import Derived.Test.YtlmcfclonncgbaaFacts
import Derived.Test.YtlmcfclonncgbaaPk1
import Derived.Deep.Slices
import Derived.Deep.Strs
import Derived.ChangeShapes
import Derived.OwnWalk
import Derived.RangeFuncNested
import Derived.RangeFuncBound
import Derived.RangeFuncCalls
import Derived.RangeFuncLeaves
import Derived.Shelf.Abstract
import Derived.Shelf.RegionOpen
import Derived.OwnWalkIn
import Derived.TacticsInMore
import Derived.LoopNIn
import Derived.LoopIn
import Derived.Test.YtlmcfclonncgbaaPk2
import Derived.Deep.RegionHeldLaw
/- Slices that came in: what the row's reading of an argument says of the cells, element by element. -/
namespace Go.Proofs.Ytlmcfclonncgbaa
open Go.RowKit

/-- The elements of a slice lie where its address says: R is what an element's cells say. -/
def Elems {α : Type} (R : α → List Value → Prop) (size : Nat) (w : World) (A : Option Addr) (xs : List α) : Prop :=
  ∀ i x, xs[i]? = some x → ∃ b o cs, A = some ⟨b, o, none⟩ ∧ b < w.heap.size ∧ R x cs ∧ cs.length = size ∧ ∀ j u, cs[j]? = some u → w.cell? ⟨b, o + (i * size + j), none⟩ = some u

structure Came {α : Type} (R : α → List Value → Prop) (size : Nat) (w : World) (A : Option Addr) (len cap : Nat) (xs : List α) : Prop where
  length : xs.length = len
  le : len ≤ cap
  max : cap ≤ maxLen
  el : Elems R size w A xs

theorem list_of {α : Type} {Q : Nat → α → Prop} : ∀ n, (∀ i, i < n → ∃ x, Q i x) → ∃ xs : List α, xs.length = n ∧ ∀ i x, xs[i]? = some x → Q i x
  | 0, _ => ⟨[], rfl, fun i x h => by simp at h⟩
  | n + 1, h => by
    obtain ⟨xs, hl, hx⟩ := list_of n (fun i hi => h i (by omega))
    obtain ⟨x, hq⟩ := h n (by omega)
    refine ⟨xs ++ [x], by simp [hl], fun i y hy => ?_⟩
    by_cases hi : i < n
    · rw [List.getElem?_append_left (by omega)] at hy
      exact hx i y hy
    · have hlt := (List.getElem?_eq_some_iff.1 hy).1
      simp [hl] at hlt
      obtain rfl : i = n := by omega
      rw [List.getElem?_append_right (by omega), hl, Nat.sub_self] at hy
      simp at hy
      subst hy
      exact hq

theorem cells_at {w : World} {a : Addr} {base n : Nat} {cs : List Value} (h : w.cells? base a n = some cs) (hn : 0 < n) (hs : a.spot = none) : a.block < w.heap.size ∧ cs.length = n ∧ ∀ j u, cs[j]? = some u → w.cell? ⟨a.block, a.off + j, none⟩ = some u := by
  obtain ⟨_, hl, hc⟩ := World.cells?_some h
  refine ⟨World.cells?_block h hn, hl, fun j u hu => ?_⟩
  have hj : j < n := by have := (List.getElem?_eq_some_iff.1 hu).1; omega
  have := hc j hj
  rw [hu] at this
  rw [← this]
  unfold Addr.add
  by_cases h0 : j = 0
  · subst h0; rw [if_pos rfl]; cases a; simp_all
  · rw [if_neg h0]

theorem spot_of {w : World} {a : Addr} {base n : Nat} {cs : List Value} (h : w.cells? base a n = some cs) (hn : 0 < n) : a.spot = none := by
  obtain ⟨_, hl, hc⟩ := World.cells?_some h
  have h0 := hc 0 hn
  obtain ⟨u, hu⟩ : ∃ u, cs[0]? = some u := ⟨_, List.getElem?_eq_getElem (by omega)⟩
  rw [hu] at h0
  simp only [Addr.add, if_true, World.cell?] at h0
  split at h0
  · split at h0
    · cases h0
    · rename_i hs; simpa using hs
  · cases h0

theorem came_of {H : Type} {enc : TypeId × Value → H} {P : Program} {w : World} {t e size : Nat} {α : Type} {R : α → List Value → Prop} (ht : P.underlying t = some (.slice e)) (hs : P.cellsOf e = size) (hs0 : 0 < size)
    (hel : ∀ n cs y, DataW.trod enc P w 0 (fun _ => true) true n e cs = some y → ∃ x, R x cs)
    {a : Option Addr} {len cap : Nat} {d : DataW H} {p : List MemPlace} (h : DataW.Trod enc P w 0 (fun _ => true) true t (.slice a len cap) d p) : ∃ xs : List α, Came R size w a len cap xs := by
  obtain ⟨fuel, hf⟩ := h
  rcases Deep.open_slice ht hf with ⟨hcs, _⟩ | ⟨ad, l, c, m, n, D, Pl, hcs, _, hlc, hcm, hm, _, hx⟩
  · simp [Value.cells] at hcs
    obtain ⟨rfl, rfl, rfl⟩ := hcs
    exact ⟨[], rfl, Nat.le_refl _, Nat.zero_le _, fun i x h => by simp at h⟩
  · simp [Value.cells] at hcs
    obtain ⟨rfl, rfl, rfl⟩ := hcs
    rw [hs] at hx
    have hlm : len ≤ m := by simp at hm; omega
    obtain ⟨xs, hl, hq⟩ := list_of (Q := fun i x => ∃ b o cs, (some ad : Option Addr) = some ⟨b, o, none⟩ ∧ b < w.heap.size ∧ R x cs ∧ cs.length = size ∧ ∀ j u, cs[j]? = some u → w.cell? ⟨b, o + (i * size + j), none⟩ = some u) len (fun i hi => by
      obtain ⟨cs', h1, h2⟩ := hx i (by omega)
      obtain ⟨x, hR⟩ := hel _ _ _ h2
      have hsp := spot_of h1 hs0
      obtain ⟨hb, hl, hc⟩ := cells_at h1 hs0 hsp
      obtain ⟨c0, h3, _⟩ := hx 0 (by omega)
      have hsp0 := spot_of h3 hs0
      have e0 : ad.spot = none := by simpa [Addr.add] using hsp0
      refine ⟨x, ad.block, ad.off, cs', ?_, ?_, hR, hl, ?_⟩
      · cases ad; simp_all
      · unfold Addr.add at hb; split at hb <;> exact hb
      · intro j u hu
        have := hc j u hu
        unfold Addr.add at this
        split at this
        · rename_i hz; rw [hz, Nat.zero_add]; exact this
        · rw [← Nat.add_assoc]; exact this)
    exact ⟨xs, hl, hlc, hcm, hq⟩

/-- What came in is there in every later world. -/
theorem Came.cell {α : Type} {R : α → List Value → Prop} {size len cap : Nat} {w w' : World} {A : Option Addr} {xs : List α} (h : Came R size w A len cap xs) (hb : Below w.heap.size w w') (i : Nat) (x : α) (hx : xs[i]? = some x) :
    ∃ b o cs, A = some ⟨b, o, none⟩ ∧ R x cs ∧ cs.length = size ∧ ∀ j u, cs[j]? = some u → w'.cell? ⟨b, o + (i * size + j), none⟩ = some u := by
  obtain ⟨b, o, cs, h1, h2, h3, h4, h5⟩ := h.el i x hx
  exact ⟨b, o, cs, h1, h3, h4, fun j u hu => (hb.cell (p := ⟨b, _, none⟩) h2).trans (h5 j u hu)⟩

def RWord (x : Int) (cs : List Value) : Prop := cs = [.int .u64 x] ∧ 0 ≤ x ∧ x < 18446744073709551616
def RStr (s : ByteArray) (cs : List Value) : Prop := cs = [.string s] ∧ s.size ≤ maxLen
/-- A call of the scripts: what, where, a cell. -/
structure GCall where
  dom : Int
  at_ : Int
  c : Int
def RCall (x : GCall) (cs : List Value) : Prop :=
  cs = [.int .i64 x.dom, .int .i64 x.at_, .int .u64 x.c] ∧ (-9223372036854775808 ≤ x.dom ∧ x.dom ≤ 9223372036854775807) ∧ (-9223372036854775808 ≤ x.at_ ∧ x.at_ ≤ 9223372036854775807) ∧ 0 ≤ x.c ∧ x.c < 18446744073709551616
def RRound (w : World) (x : List GCall) (cs : List Value) : Prop := ∃ A len cap, cs = [.slice A len cap] ∧ Came RCall 3 w A len cap x

theorem slice_cells {H : Type} {enc : TypeId × Value → H} {P : Program} {w : World} {t e n : Nat} {cs : List Value} {y : DataW H × List MemPlace} (ht : P.underlying t = some (.slice e)) (h : DataW.trod enc P w 0 (fun _ => true) true n t cs = some y) :
    ∃ A l c, cs = [.slice A l c] := by
  rcases Deep.open_slice ht h with ⟨rfl, _⟩ | ⟨ad, l, c, m, n, D, Pl, rfl, _⟩
  · exact ⟨_, _, _, rfl⟩
  · exact ⟨_, _, _, rfl⟩

theorem Came.addr {α : Type} {R : α → List Value → Prop} {size len cap : Nat} {w : World} {A : Option Addr} {xs : List α} (h : Came R size w A len cap xs) (hl : 0 < len) : ∃ b o, A = some ⟨b, o, none⟩ := by
  obtain ⟨x, hx⟩ : ∃ x, xs[0]? = some x := ⟨_, List.getElem?_eq_getElem (by rw [h.length]; exact hl)⟩
  obtain ⟨b, o, _, rfl, _⟩ := h.el 0 x hx
  exact ⟨b, o, rfl⟩
theorem Came.word {len cap b o : Nat} {w w' : World} {xs : List Int} (h : Came RWord 1 w (some ⟨b, o, none⟩) len cap xs) (hb : Below w.heap.size w w') (k : Nat) (hk : k < len) :
    w'.cell? ⟨b, o + k, none⟩ = some (.int .u64 (xs.getD k 0)) := by
  have hk' : k < xs.length := by rw [h.length]; exact hk
  obtain ⟨b', o', cs, he, hR, _, hc⟩ := h.cell hb k _ (List.getElem?_eq_getElem hk')
  simp at he
  obtain ⟨rfl, rfl⟩ := he
  have := hc 0 (.int .u64 xs[k]) (by rw [hR.1]; rfl)
  rw [Nat.mul_one, Nat.add_zero] at this
  rw [this, List.getD, List.getElem?_eq_getElem hk']
  rfl
theorem Came.word_range {len cap : Nat} {A : Option Addr} {w : World} {xs : List Int} (h : Came RWord 1 w A len cap xs) : ∀ x ∈ xs, 0 ≤ x ∧ x < 18446744073709551616 := by
  intro x hx
  obtain ⟨i, hi⟩ := List.getElem?_of_mem hx
  obtain ⟨_, _, _, _, _, hR, _⟩ := h.el i x hi
  exact hR.2
theorem take_succ_getD (xs : List Int) (k : Nat) (h : k < xs.length) : xs.take (k + 1) = xs.take k ++ [xs.getD k 0] := by
  rw [List.take_succ_eq_append_getElem h, List.getD, List.getElem?_eq_getElem h]; rfl

section
variable {H : Type} {enc : TypeId × Value → H} {w : World} {a : Option Addr} {len cap : Nat} {d : DataW H} {p : List MemPlace}
theorem open_cells (h : DataW.Trod enc Try.prog w 0 (fun _ => true) true 62 (.slice a len cap) d p) : ∃ xs : List Int, Came RWord 1 w a len cap xs := by
  refine came_of Try.underlying62 (by kernel_rfl) (by decide) (fun n cs y hy => ?_) h
  obtain ⟨x, rfl, _, hw⟩ := DataW.trod_int Try.underlying34 hy
  have := wf_u64 hw
  exact ⟨x, rfl, by omega, by omega⟩
theorem open_strs5 (h : DataW.Trod enc Try.prog w 0 (fun _ => true) true 55 (.slice a len cap) d p) : ∃ xs : List ByteArray, Came RStr 1 w a len cap xs := by
  refine came_of Try.underlying55 (by kernel_rfl) (by decide) (fun n cs y hy => ?_) h
  obtain ⟨x, rfl, _, hw⟩ := DataW.trod_string Try.underlying9 hy
  exact ⟨x, rfl, hw⟩
end

end Go.Proofs.Ytlmcfclonncgbaa
/- Terms in memory: what a term's cells say, all the way down; blocks of terms are nobody's to write (owner 0). -/
namespace Go.Proofs.Ytlmcfclonncgbaa
open Go.RowKit
set_option linter.unusedVariables false

/-- The numbers of a node are of their kinds. -/
def Rng (k n re im : Int) (s : ByteArray) : Prop :=
  (-9223372036854775808 ≤ k ∧ k ≤ 9223372036854775807) ∧ (-9223372036854775808 ≤ n ∧ n ≤ 9223372036854775807) ∧ (0 ≤ re ∧ re < 18446744073709551616) ∧ (0 ≤ im ∧ im < 18446744073709551616) ∧ s.size ≤ maxLen
/-- A node's cells. -/
def cellsT (t : Tm) (sl : Value) : List Value := [.int .i64 t.kind, .string t.name, .int .i64 t.int, .int .u64 t.re, .int .u64 t.im, sl]
def valT (t : Tm) (sl : Value) : Value := .agg #[.int .i64 t.kind, .string t.name, .int .i64 t.int, .int .u64 t.re, .int .u64 t.im, sl]
mutual
/-- A term's arguments lie where its slice says. -/
def TmS (own : Nat → Nat) (w : World) : Tm → Value → Prop
  | .mk k s n re im args, sl => Rng k n re im s ∧ ∃ A len cap, sl = .slice A len cap ∧ args.length = len ∧ len ≤ cap ∧ cap ≤ maxLen ∧ TmE own w A 0 args
def TmE (own : Nat → Nat) (w : World) (A : Option Addr) : Nat → List Tm → Prop
  | _, [] => True
  | i, t :: ts => (∃ b o sl, A = some ⟨b, o, none⟩ ∧ b < w.heap.size ∧ own b = 0 ∧ TmS own w t sl ∧ ∀ j u, (cellsT t sl)[j]? = some u → w.cell? ⟨b, o + (i * 6 + j), none⟩ = some u) ∧ TmE own w A (i + 1) ts
end
/-- A slice of terms. -/
def TmL (own : Nat → Nat) (w : World) (l : List Tm) (A : Option Addr) (len cap : Nat) : Prop := l.length = len ∧ len ≤ cap ∧ cap ≤ maxLen ∧ TmE own w A 0 l

theorem Ext.cell {own own' : Nat → Nat} {ids : List Nat} {w w' : World} (x : Ext own own' ids w w') {p : Addr} (hp : p.block < w.heap.size) (ho : own p.block ∉ ids) : w'.cell? p = w.cell? p := by
  unfold World.cell?
  rw [x.block _ hp ho]
section
variable {own own' : Nat → Nat} {ids : List Nat} {w w' : World}
mutual
theorem TmS.keep (x : Ext own own' ids w w') (hi : 0 ∉ ids) : ∀ (t : Tm) (sl : Value), TmS own w t sl → TmS own' w' t sl
  | .mk k s n re im args, sl, h => by
    obtain ⟨h0, A, len, cap, h1, h2, h3, h4, h5⟩ := h
    exact ⟨h0, A, len, cap, h1, h2, h3, h4, TmE.keep x hi A 0 args h5⟩
theorem TmE.keep (x : Ext own own' ids w w') (hi : 0 ∉ ids) (A : Option Addr) : ∀ (i : Nat) (l : List Tm), TmE own w A i l → TmE own' w' A i l
  | _, [], _ => trivial
  | i, t :: ts, ⟨⟨b, o, sl, h1, h2, h3, h4, h5⟩, h6⟩ =>
    ⟨⟨b, o, sl, h1, Nat.lt_of_lt_of_le h2 x.size, (x.own b h2).trans h3, TmS.keep x hi t sl h4, fun j u hu => (x.cell (p := ⟨b, _, none⟩) h2 (by show own b ∉ ids; rw [h3]; exact hi)).trans (h5 j u hu)⟩, TmE.keep x hi A (i + 1) ts h6⟩
end
theorem TmL.keep {l : List Tm} {A : Option Addr} {len cap : Nat} (h : TmL own w l A len cap) (x : Ext own own' ids w w') (hi : 0 ∉ ids) : TmL own' w' l A len cap := ⟨h.1, h.2.1, h.2.2.1, TmE.keep x hi A 0 l h.2.2.2⟩
theorem TmS.dr {t : Tm} {sl : Value} (h : TmS own w t sl) (n : Nat) : TmS own (w.drewN n) t sl := TmS.keep ((Ext.refl own [] w).drewN n) (by simp) t sl h
theorem TmE.get {A : Option Addr} : ∀ (l : List Tm) (i : Nat), TmE own w A i l → ∀ (j : Nat) (t : Tm), l[j]? = some t → ∃ b o sl, A = some ⟨b, o, none⟩ ∧ b < w.heap.size ∧ own b = 0 ∧ TmS own w t sl ∧ ∀ q u, (cellsT t sl)[q]? = some u → w.cell? ⟨b, o + ((i + j) * 6 + q), none⟩ = some u
  | [], _, _, j, t, h => by simp at h
  | a :: r, i, ⟨h0, h1⟩, 0, t, h => by
    simp at h
    subst h
    simpa using h0
  | a :: r, i, ⟨h0, h1⟩, j + 1, t, h => by
    have := TmE.get r (i + 1) h1 j t (by simpa using h)
    rwa [show i + 1 + j = i + (j + 1) by omega] at this
theorem TmE.of {A : Option Addr} : ∀ (l : List Tm) (i : Nat), (∀ (j : Nat) (t : Tm), l[j]? = some t → ∃ b o sl, A = some ⟨b, o, none⟩ ∧ b < w.heap.size ∧ own b = 0 ∧ TmS own w t sl ∧ ∀ q u, (cellsT t sl)[q]? = some u → w.cell? ⟨b, o + ((i + j) * 6 + q), none⟩ = some u) → TmE own w A i l
  | [], _, _ => trivial
  | a :: r, i, h => ⟨by simpa using h 0 a rfl, TmE.of r (i + 1) (fun j t ht => by
      have := h (j + 1) t (by simpa using ht)
      rwa [show i + (j + 1) = i + 1 + j by omega] at this)⟩
theorem TmS.rng {t : Tm} {sl : Value} (h : TmS own w t sl) : Rng t.kind t.int t.re t.im t.name := by
  cases t; exact h.1
/-- A term's slice, as it is met on a walk. -/
theorem TmS.args {t : Tm} {sl : Value} (h : TmS own w t sl) : ∃ A len cap, sl = .slice A len cap ∧ TmL own w t.args A len cap := by
  cases t
  obtain ⟨_, A, len, cap, h1, h2, h3, h4, h5⟩ := h
  exact ⟨A, len, cap, h1, h2, h3, h4, h5⟩
/-- One term of a slice of terms. -/
theorem TmL.get {l : List Tm} {A : Option Addr} {len cap : Nat} (h : TmL own w l A len cap) (j : Nat) (hj : j < len) : ∃ t b o sl, l[j]? = some t ∧ A = some ⟨b, o, none⟩ ∧ TmS own w t sl ∧ b < w.heap.size ∧ own b = 0 ∧ ∀ q u, (cellsT t sl)[q]? = some u → w.cell? ⟨b, o + j * 6 + q, none⟩ = some u := by
  have hj' : j < l.length := by rw [h.1]; exact hj
  obtain ⟨b, o, sl, h1, h2, h3, h4, h5⟩ := h.2.2.2.get l 0 j _ (List.getElem?_eq_getElem hj')
  refine ⟨l[j], b, o, sl, List.getElem?_eq_getElem hj', h1, h4, h2, h3, fun q u hu => ?_⟩
  have := h5 q u hu
  rwa [Nat.zero_add, ← Nat.add_assoc] at this
theorem TmL.nil : TmL own w [] none 0 0 := ⟨rfl, Nat.le_refl _, Nat.zero_le _, trivial⟩
end

/-! What came in -/
theorem okWide_struct {P : Program} {w : World} {r : Reach} {base : Nat} {t : TypeId} {v : Value} {fs : Array Field} (ht : P.underlying t = some (.struct fs)) (h : Value.okWide P w r base t v) : ∃ cs, v = .agg cs := by
  unfold Value.okWide at h
  rw [ht] at h
  obtain ⟨cs, rfl, _, _⟩ := h
  exact ⟨cs, rfl⟩
theorem six_of {cs : List Value} (hl : cs.length = 6) : ∃ u0 u1 u2 u3 u4 u5, cs = [u0, u1, u2, u3, u4, u5] := by
  match cs, hl with
  | [u0, u1, u2, u3, u4, u5], _ => exact ⟨u0, u1, u2, u3, u4, u5, rfl⟩
theorem struct6 {H : Type} {enc : TypeId × Value → H} {P : Program} {w : World} {base : Nat} {spare : Nat → Bool} {held : Bool} {t : TypeId} {f0 f1 f2 f3 f4 f5 : Field} {fuel : Nat} {cs : List Value} {x : DataW H × List MemPlace} (ht : P.underlying t = some (.struct #[f0, f1, f2, f3, f4, f5])) (h : DataW.trod enc P w base spare held fuel t cs = some x) :
    ∃ y0 y1 y2 y3 y4 y5 n, fuel = n + 1 ∧ cs.length = P.cellsOf t ∧ DataW.trod enc P w base spare held n f0.type ((cs.drop f0.offset).take (P.cellsOf f0.type)) = some y0 ∧
      DataW.trod enc P w base spare held n f1.type ((cs.drop f1.offset).take (P.cellsOf f1.type)) = some y1 ∧ DataW.trod enc P w base spare held n f2.type ((cs.drop f2.offset).take (P.cellsOf f2.type)) = some y2 ∧
      DataW.trod enc P w base spare held n f3.type ((cs.drop f3.offset).take (P.cellsOf f3.type)) = some y3 ∧ DataW.trod enc P w base spare held n f4.type ((cs.drop f4.offset).take (P.cellsOf f4.type)) = some y4 ∧
      DataW.trod enc P w base spare held n f5.type ((cs.drop f5.offset).take (P.cellsOf f5.type)) = some y5 := by
  obtain ⟨xs, n, hn, rfl, hl, hlen, hf⟩ := DataW.trod_struct ht h
  match xs, hlen with
  | [y0, y1, y2, y3, y4, y5], _ => exact ⟨y0, y1, y2, y3, y4, y5, n, hn, hl, by simpa using hf 0 f0 rfl, by simpa using hf 1 f1 rfl, by simpa using hf 2 f2 rfl, by simpa using hf 3 f3 rfl, by simpa using hf 4 f4 rfl, by simpa using hf 5 f5 rfl⟩
theorem size_term : Try.prog.cellsOf 25 = 6 := by kernel_rfl
theorem size_1a : Try.prog.cellsOf 3 = 1 := by kernel_rfl
theorem size_1b : Try.prog.cellsOf 9 = 1 := by kernel_rfl
theorem size_1c : Try.prog.cellsOf 2 = 1 := by kernel_rfl
theorem size_1d : Try.prog.cellsOf 22 = 1 := by kernel_rfl
theorem size_1e : Try.prog.cellsOf 23 = 1 := by kernel_rfl
section
variable {H : Type} {enc : TypeId × Value → H} {w : World}
set_option maxRecDepth 20000 in
theorem came_terms : ∀ fuel : Nat, (∀ cs y, DataW.trod enc Try.prog w 0 (fun _ => true) true fuel 25 cs = some y → ∃ t sl, cs = cellsT t sl ∧ TmS own0 w t sl) ∧
    (∀ cs y, DataW.trod enc Try.prog w 0 (fun _ => true) true fuel 23 cs = some y → ∃ l A len cap, cs = [.slice A len cap] ∧ TmL own0 w l A len cap)
  | 0 => ⟨fun cs y h => by simp [DataW.trod] at h, fun cs y h => by simp [DataW.trod] at h⟩
  | n + 1 => by
    obtain ⟨ih1, ih2⟩ := came_terms n
    refine ⟨fun cs y h => ?_, fun cs y h => ?_⟩
    · obtain ⟨y0, y1, y2, y3, y4, y5, n', hn, hl, h0, h1, h2, h3, h4, h5⟩ := struct6 Try.underlying25 h
      obtain rfl : n = n' := by omega
      rw [size_term] at hl
      simp only [size_1a, size_1b, size_1c, size_1d, size_1e] at h0 h1 h2 h3 h4 h5
      obtain ⟨u0, u1, u2, u3, u4, u5, rfl⟩ := six_of hl
      obtain ⟨a0, e0, _, w0⟩ := DataW.trod_int Try.underlying3 h0
      obtain ⟨a1, e1, _, w1⟩ := DataW.trod_string Try.underlying9 h1
      obtain ⟨a2, e2, _, w2⟩ := DataW.trod_int Try.underlying2 h2
      obtain ⟨a3, e3, _, w3⟩ := DataW.trod_int Try.underlying22 h3
      obtain ⟨a4, e4, _, w4⟩ := DataW.trod_int Try.underlying22 h4
      obtain ⟨l, A, len, cap, e5, hL⟩ := ih2 _ _ h5
      simp at e0 e1 e2 e3 e4 e5
      subst e0 e1 e2 e3 e4 e5
      have := wf_i64 w0
      have := wf_i64 w2
      have := wf_u64 w3
      have := wf_u64 w4
      exact ⟨.mk a0 a1 a2 a3 a4 l, _, rfl, ⟨by omega, by omega, by omega, by omega, w1⟩, A, len, cap, rfl, hL.1, hL.2.1, hL.2.2.1, hL.2.2.2⟩
    · rcases DataW.trod_slice Try.underlying23 h with ⟨rfl, _⟩ | ⟨a, len, cap, elems, rest, n', hn, rfl, _, _, hlc, hcm, hel, hx, _⟩
      · exact ⟨[], none, 0, 0, rfl, TmL.nil⟩
      · obtain rfl : n = n' := by omega
        rw [size_term] at hx
        obtain ⟨xs, hxl, hq⟩ := list_of (Q := fun i t => ∃ b o sl, (some a : Option Addr) = some ⟨b, o, none⟩ ∧ b < w.heap.size ∧ TmS own0 w t sl ∧ ∀ j u, (cellsT t sl)[j]? = some u → w.cell? ⟨b, o + (i * 6 + j), none⟩ = some u) len (fun i hi => by
          obtain ⟨y, hy⟩ : ∃ y, elems[i]? = some y := ⟨_, List.getElem?_eq_getElem (by omega)⟩
          have hb := hx i hi
          rw [hy] at hb
          obtain ⟨cs', h1, h2⟩ := Option.bind_eq_some_iff.1 hb
          obtain ⟨t, sl, rfl, hT⟩ := ih1 _ _ h2
          have hsp := spot_of h1 (by omega)
          obtain ⟨hblt, _, hc⟩ := cells_at h1 (by omega) hsp
          obtain ⟨y0, hy0⟩ : ∃ y, elems[0]? = some y := ⟨_, List.getElem?_eq_getElem (by omega)⟩
          have hb0 := hx 0 (by omega)
          rw [hy0] at hb0
          obtain ⟨cs0, h3, _⟩ := Option.bind_eq_some_iff.1 hb0
          have hsp0 := spot_of h3 (by omega)
          have e0 : a.spot = none := by simpa [Addr.add] using hsp0
          refine ⟨t, a.block, a.off, sl, ?_, ?_, hT, ?_⟩
          · cases a; simp_all
          · unfold Addr.add at hblt; split at hblt <;> exact hblt
          · intro j u hu
            have := hc j u hu
            unfold Addr.add at this
            split at this
            · rename_i hz; rw [hz, Nat.zero_add]; exact this
            · rw [← Nat.add_assoc]; exact this)
        refine ⟨xs, some a, len, cap, rfl, hxl, hlc, hcm, TmE.of xs 0 fun j t ht => ?_⟩
        obtain ⟨b, o, sl, h1, h2, h3, h4⟩ := hq j t ht
        exact ⟨b, o, sl, h1, h2, rfl, h3, by simpa using h4⟩
set_option maxRecDepth 100000 in
theorem open_term {v : Value} {d : DataW H} {p : List MemPlace} {base : Nat} (hv : Value.okWide Try.prog w .any base 25 v) (h : DataW.Trod enc Try.prog w 0 (fun _ => true) true 25 v d p) : ∃ t sl, v = valT t sl ∧ TmS own0 w t sl := by
  obtain ⟨fuel, hf⟩ := h
  obtain ⟨cs, rfl⟩ := okWide_struct Try.underlying25 hv
  obtain ⟨t, sl, he, hT⟩ := (came_terms fuel).1 _ _ hf
  refine ⟨t, sl, ?_, hT⟩
  have : cs.toList = cellsT t sl := he
  have : cs = (cellsT t sl).toArray := by rw [← this]
  rw [this]; rfl
set_option maxRecDepth 100000 in
theorem open_terms {a : Option Addr} {len cap : Nat} {d : DataW H} {p : List MemPlace} (h : DataW.Trod enc Try.prog w 0 (fun _ => true) true 23 (.slice a len cap) d p) : ∃ l : List Tm, TmL own0 w l a len cap := by
  obtain ⟨fuel, hf⟩ := h
  obtain ⟨l, A, len', cap', he, hL⟩ := (came_terms fuel).2 _ _ hf
  simp [Value.cells] at he
  obtain ⟨rfl, rfl, rfl⟩ := he
  exact ⟨l, hL⟩
end

end Go.Proofs.Ytlmcfclonncgbaa
/- Terms made (package elenchusref1: Atom, Int, Var, Comp). -/
namespace Go.Proofs.Ytlmcfclonncgbaa
open Go.RowKit
set_option linter.unusedVariables false
set_option linter.unusedSimpArgs false

theorem results_cell1 {fn : Func} {p : Tmp} {ty : TypeId} (h : fn.results = #[.cell p ty]) (tmps : Array Value) (P : Program) (w : World) :
    (results fn tmps).run P w = ((asAddr (tmps.getD p undef)).run P w).andThen fun a w₁ => (loadVar ty a).run P w₁ := by
  simp only [results, h]
  simp [Sem.run_bind, Result.andThen]
theorem r1atom_any (own : Nat → Nat) (s : ByteArray) (w : World) : Calls Try.prog 76 #[.string s] w (Does own [] w fun own' e w' => e = .returned (valT (.mk 2 s 0 0 0 []) (.slice none 0 0))) := by
  go_enter Try.func76, Try.ntmps76
  go_wp2_with fail
  (try simp only [Exit.inBlock, Exit.then])
  refine bodyPost_ret (v := .agg #[.int .i64 2, .string s, .int .i64 0, .int .u64 0, .int .u64 0, .slice none 0 0]) ?_ rfl ?_
  · rw [results_cell1 rfl]
    go_simp
    try rfl
  · exact ⟨own, (Ext.refl own [] w).alloc _, rfl⟩
theorem r1var_any (own : Nat → Nat) (n : Int) (w : World) : Calls Try.prog 35 #[.int .i64 n] w (Does own [] w fun own' e w' => e = .returned (valT (.mk 1 ByteArray.empty n 0 0 []) (.slice none 0 0))) := by
  go_enter Try.func35, Try.ntmps35
  go_wp2_with fail
  (try simp only [Exit.inBlock, Exit.then])
  refine bodyPost_ret (v := .agg #[.int .i64 1, .string ByteArray.empty, .int .i64 n, .int .u64 0, .int .u64 0, .slice none 0 0]) ?_ rfl ?_
  · rw [results_cell1 rfl]
    go_simp
    try rfl
  · exact ⟨own, (Ext.refl own [] w).alloc _, rfl⟩
theorem r1int_any (own : Nat → Nat) (n : Int) (w : World) : Calls Try.prog 136 #[.int .i64 n] w (Does own [] w fun own' e w' => e = .returned (valT (.mk 3 ByteArray.empty n 0 0 []) (.slice none 0 0))) := by
  go_enter Try.func136, Try.ntmps136
  go_wp2_with fail
  (try simp only [Exit.inBlock, Exit.then])
  refine bodyPost_ret (v := .agg #[.int .i64 3, .string ByteArray.empty, .int .i64 n, .int .u64 0, .int .u64 0, .slice none 0 0]) ?_ rfl ?_
  · rw [results_cell1 rfl]
    go_simp
    try rfl
  · exact ⟨own, (Ext.refl own [] w).alloc _, rfl⟩
theorem r1comp_any (own : Nat → Nat) (s : ByteArray) (args : List Tm) (A : Option Addr) (len cap : Nat) (w : World) : Calls Try.prog 57 #[.string s, .slice A len cap] w (Does own [] w fun own' e w' => e = .returned (valT (.mk 5 s 0 0 0 args) (.slice A len cap))) := by
  go_enter Try.func57, Try.ntmps57
  go_wp2_with fail
  (try simp only [Exit.inBlock, Exit.then])
  refine bodyPost_ret (v := .agg #[.int .i64 5, .string s, .int .i64 0, .int .u64 0, .int .u64 0, .slice A len cap]) ?_ rfl ?_
  · rw [results_cell1 rfl]
    go_simp
    try rfl
  · exact ⟨own, (Ext.refl own [] w).alloc _, rfl⟩

theorem leaf_term {own : Nat → Nat} {w : World} {k n re im : Int} {s : ByteArray} (h : Rng k n re im s) : TmS own w (.mk k s n re im []) (.slice none 0 0) := ⟨h, none, 0, 0, rfl, rfl, Nat.le_refl _, Nat.zero_le _, trivial⟩

theorem flat6 : ∀ (l : List (Tm × Value)) (j : Nat) (z : Tm × Value), l[j]? = some z → ∀ q u, (cellsT z.1 z.2)[q]? = some u → (l.flatMap fun z => cellsT z.1 z.2)[j * 6 + q]? = some u
  | [], j, z, h, _, _, _ => by simp at h
  | a :: l, 0, z, h, q, u, hu => by
    simp at h
    subst h
    rw [List.flatMap_cons, List.getElem?_append_left (by have := (List.getElem?_eq_some_iff.1 hu).1; omega)]
    simpa using hu
  | a :: l, j + 1, z, h, q, u, hu => by
    have h1 := flat6 l j z (by simpa using h) q u hu
    rw [List.flatMap_cons, List.getElem?_append_right (by simp [cellsT]; omega)]
    have e : (j + 1) * 6 + q - (cellsT a.1 a.2).length = j * 6 + q := by simp [cellsT]; omega
    rw [e]; exact h1
/-- A slice of terms just built. -/
theorem TmL.built (own : Nat → Nat) (w : World) (l : List (Tm × Value)) (h : ∀ z ∈ l, TmS own w z.1 z.2) (hl : l.length ≤ maxLen) (ty : TypeId) (cs : List Value) (hcs : cs = l.flatMap fun z => cellsT z.1 z.2) :
    Ext own (give own w.heap.size 0) [] w (w.alloc (.cells cs.toArray ty)) ∧ TmL (give own w.heap.size 0) (w.alloc (.cells cs.toArray ty)) (l.map (·.1)) (some ⟨w.heap.size, 0, none⟩) l.length l.length := by
  subst hcs
  obtain ⟨_, kb, y⟩ := (Ext.refl own [] w).box (l.flatMap fun z => cellsT z.1 z.2) ty 0
  refine ⟨y, by simp, Nat.le_refl _, hl, TmE.of _ _ fun j t ht => ?_⟩
  rw [List.getElem?_map] at ht
  cases hz : l[j]? with
  | none => rw [hz] at ht; simp at ht
  | some z =>
    rw [hz] at ht
    simp at ht
    subst ht
    refine ⟨w.heap.size, 0, z.2, rfl, kb.lt, kb.2, TmS.keep y (by simp) z.1 _ (h z (List.mem_of_getElem? hz)), fun q u hu => ?_⟩
    have := kb.cell ((0 + j) * 6 + q) (by rw [Nat.zero_add]; exact flat6 l j z hz q u hu)
    rwa [Nat.zero_add]
theorem TmL.comp {own : Nat → Nat} {w : World} {l : List Tm} {A : Option Addr} {len cap : Nat} {k n re im : Int} {s : ByteArray} (h : TmL own w l A len cap) (hr : Rng k n re im s) : TmS own w (.mk k s n re im l) (.slice A len cap) := ⟨hr, A, len, cap, rfl, h.1, h.2.1, h.2.2.1, h.2.2.2⟩

end Go.Proofs.Ytlmcfclonncgbaa
/- Light of the reference (package elenchusref1): few nodes, not too deep: by a contract. -/
namespace Go.Proofs.Ytlmcfclonncgbaa
open Go.RowKit
set_option linter.unusedVariables false

theorem Tm.ind_aux {P : Tm → Prop} (h : ∀ k s n re im args, (∀ a ∈ args, P a) → P (.mk k s n re im args)) : ∀ N (t : Tm), _root_.SizeOf.sizeOf t ≤ N → P t
  | 0, .mk k s n re im args, hN => by simp at hN
  | N + 1, .mk k s n re im args, hN => h k s n re im args fun a ha => Tm.ind_aux h N a (by
      have := List.sizeOf_lt_of_mem ha
      simp at hN
      omega)
theorem Tm.ind {P : Tm → Prop} (h : ∀ k s n re im args, (∀ a ∈ args, P a) → P (.mk k s n re im args)) (t : Tm) : P t := Tm.ind_aux h _ t (Nat.le_refl _)
section
variable {own own' : Nat → Nat} {ids : List Nat} {w w' : World}
/-- One term of a slice, its six cells. -/
theorem TmL.at {l : List Tm} {b o len cap : Nat} (h : TmL own w l (some ⟨b, o, none⟩) len cap) (k : Nat) (hk : k < len) :
    ∃ t sl, l[k]? = some t ∧ TmS own w t sl ∧ w.cell? ⟨b, o + k * 6, none⟩ = some (.int .i64 t.kind) ∧ w.cell? ⟨b, o + k * 6 + 1, none⟩ = some (.string t.name) ∧ w.cell? ⟨b, o + k * 6 + 2, none⟩ = some (.int .i64 t.int) ∧
      w.cell? ⟨b, o + k * 6 + 3, none⟩ = some (.int .u64 t.re) ∧ w.cell? ⟨b, o + k * 6 + 4, none⟩ = some (.int .u64 t.im) ∧ w.cell? ⟨b, o + k * 6 + 5, none⟩ = some sl := by
  obtain ⟨t, b', o', sl, h1, he, h2, _, _, h3⟩ := h.get k hk
  simp at he
  obtain ⟨rfl, rfl⟩ := he
  exact ⟨t, sl, h1, h2, h3 0 _ rfl, h3 1 _ rfl, h3 2 _ rfl, h3 3 _ rfl, h3 4 _ rfl, h3 5 _ rfl⟩
theorem TmL.addr {l : List Tm} {A : Option Addr} {len cap : Nat} (h : TmL own w l A len cap) (hl : 0 < len) : ∃ b o, A = some ⟨b, o, none⟩ := by
  obtain ⟨t, b, o, sl, _, he, _⟩ := h.get 0 hl
  exact ⟨b, o, he⟩
end

theorem valT_mk (k n re im : Int) (s : ByteArray) (args : List Tm) (sl : Value) : valT (.mk k s n re im args) sl = .agg #[.int .i64 k, .string s, .int .i64 n, .int .u64 re, .int .u64 im, sl] := rfl
mutual
/-- Light: how many nodes may still come; below 0: none. -/
def lightF : Tm → Int → Int → Int
  | .mk k s n re im args, d, left => if left < 1 ∨ 700 < d ∨ 400 < s.size ∨ 60 < args.length then -1 else lightFs args (d + 1) (left - 1)
def lightFs : List Tm → Int → Int → Int
  | [], _, left => left
  | t :: ts, d, left => if lightF t d left < 0 then -1 else lightFs ts d (lightF t d left)
end
theorem lightFs_cons (t : Tm) (ts : List Tm) (d left : Int) : lightFs (t :: ts) d left = if lightF t d left < 0 then -1 else lightFs ts d (lightF t d left) := rfl
mutual
theorem lightF_le : ∀ (t : Tm) (d left : Int), -1 ≤ lightF t d left ∧ lightF t d left ≤ max left (-1)
  | .mk k s n re im args, d, left => by
    unfold lightF
    split
    · omega
    · have := lightFs_le args (d + 1) (left - 1) (by omega)
      omega
theorem lightFs_le : ∀ (l : List Tm) (d left : Int), -1 ≤ left → -1 ≤ lightFs l d left ∧ lightFs l d left ≤ max left (-1)
  | [], d, left, h => by unfold lightFs; omega
  | t :: ts, d, left, h => by
    have h1 := lightF_le t d left
    unfold lightFs
    split
    · omega
    · have := lightFs_le ts d (lightF t d left) h1.1
      omega
end

set_option maxHeartbeats 1600000 in
set_option maxRecDepth 100000 in
theorem light_any : ∀ (t : Tm) (sl : Value) (d left : Int) (own : Nat → Nat) (w : World), TmS own w t sl → 1 ≤ d → d ≤ 701 → -1 ≤ left → left ≤ 4000 →
    Calls Try.prog 83 #[valT t sl, .int .i64 d, .int .i64 left] w (Does own [] w fun own' e w' => e = .returned (.int .i64 (lightF t d left))) := by
  refine Tm.ind ?_
  intro k s n re im args ih sl d left own w h hd0 hd1 hl0 hl1
  obtain ⟨A, len, cap, rfl, hL⟩ := h.args
  obtain ⟨_, _, _, _, hsz⟩ := h.rng
  have hlen := hL.1
  have hle := hL.2.1
  have hmax := hL.2.2.1
  unfold maxLen at hmax hsz
  replace hL : TmL own w args A len cap := hL
  replace hlen : args.length = len := hlen
  replace hsz : s.size ≤ 2 ^ 63 - 1 := hsz
  rw [valT_mk]
  unfold lightF
  have hn0 : (0 : Int) ≤ (s.size : Int) := by omega
  by_cases h1 : left < 1
  · simp only [h1, true_or, if_true]
    go_enter Try.func83, Try.ntmps83
    go_wp2_with fail
    go_ret
    exact ⟨own, (Ext.refl _ _ _).alloc _, rfl⟩
  · by_cases h2 : 700 < d
    · simp only [h2, true_or, or_true, if_true]
      have h1' : 1 ≤ left := by omega
      go_enter Try.func83, Try.ntmps83
      go_wp2_with fail
      go_ret
      exact ⟨own, (Ext.refl _ _ _).alloc _, rfl⟩
    · have h1' : 1 ≤ left := by omega
      have h2' : d ≤ 700 := by omega
      by_cases h3 : 400 < s.size
      · simp only [h3, true_or, or_true, if_true]
        have h3' : (400 : Int) < (s.size : Int) := by omega
        go_enter Try.func83, Try.ntmps83
        go_wp2_with fail
        go_ret
        exact ⟨own, (Ext.refl _ _ _).alloc _, rfl⟩
      · have h3' : (s.size : Int) ≤ 400 := by omega
        by_cases h4 : 60 < args.length
        · simp only [h4, or_true, if_true]
          have h4' : (60 : Int) < (len : Int) := by omega
          go_enter Try.func83, Try.ntmps83
          go_wp2_with fail
          go_ret
          exact ⟨own, (Ext.refl _ _ _).alloc _, rfl⟩
        · have h4' : (len : Int) ≤ 60 := by omega
          rw [if_neg (by omega)]
          clear h1 h2 h3 h4
          have hgo : ∀ own' w', Ext own own' [] w w' → TmL own' w' args A len cap := fun own' w' x => hL.keep x (by simp)
          have HGO := Lib.hid hgo
          have HLEN := Lib.hid hlen
          have HIH := Lib.hid ih
          clear hgo hL hlen h ih
          go_enter Try.func83, Try.ntmps83
          go_wp2_with fail
          go_loopw [32, 2] (fun v u wr => ∃ (k : Nat) (left' : Int) (own' : Nat → Nat), v = .int .i64 k ∧ u = .int .i64 left' ∧ k ≤ len ∧ Ext own own' [] w wr ∧ 0 ≤ left' ∧ left' ≤ 4000 ∧ lightFs (args.drop k) (d + 1) left' = lightFs args (d + 1) (left - 1)) (fun v _ _ => len - (intOf v).toNat)
          case atStart => exact ⟨0, left - 1, own, rfl, by go_num, by omega, (Ext.refl _ _ _).alloc _, by omega, by omega, rfl⟩
          case round =>
            obtain ⟨k, left', own', rfl, rfl, hk, x, hle0, hle1, hinv⟩ := hrel
            by_cases hlt : k < len
            · have hL := HGO.out own' wr x
              obtain ⟨b, o, rfl⟩ := hL.addr (by omega)
              obtain ⟨t, sl, ht, hT, c0, c1, c2, c3, c4, c5⟩ := hL.at k hlt
              have hmem := List.mem_of_getElem? ht
              have hdrop : args.drop k = t :: args.drop (k + 1) := by rw [List.drop_eq_getElem_cons (List.getElem?_eq_some_iff.1 ht).1, (List.getElem?_eq_some_iff.1 ht).2]
              rw [hdrop] at hinv
              obtain ⟨A', l', cp', rfl, _⟩ := hT.args
              have hlf := lightF_le t (d + 1) left'
              have HINV := Lib.hid hinv
              have HT := Lib.hid hT
              have HM := Lib.hid hmem
              clear hinv hT hmem ht hdrop hL
              go_wp2_with fail
              refine (HIH.out t HM.out _ (d + 1) left' own' _ ?_ (by omega) (by omega) (by omega) (by omega)).mono ?_
              · exact TmS.keep ((Ext.refl own' [] wr).alloc _) (by simp) t _ HT.out
              rintro e w2 ⟨own2, x2, rfl⟩
              have hun := HINV.out
              rw [lightFs_cons] at hun
              by_cases hz : lightF t (d + 1) left' < 0
              · rw [if_pos hz] at hun
                have HU := Lib.hid hun
                clear hun
                go_wp2_with fail
                go_ret
                exact ⟨own2, (x.alloc _).trans x2, by rw [← HU.out]; rfl⟩
              · rw [if_neg hz] at hun
                have HU := Lib.hid hun
                clear hun
                have hz' : 0 ≤ lightF t (d + 1) left' := by omega
                go_wp2_with fail
                go_roundw
                case measure => simp [intOf]; omega
                exact ⟨k + 1, _, own2, by go_num, rfl, by omega, (x.alloc _).trans x2, hz', by omega, HU.out⟩
            · obtain rfl : k = len := by omega
              have hd : args.drop k = [] := List.drop_eq_nil_of_le (by rw [HLEN.out]; exact Nat.le_refl _)
              rw [hd] at hinv
              have HINV := Lib.hid hinv
              clear hinv hd
              go_wp2_with fail
              go_ret
              exact ⟨own', x, by rw [← HINV.out]; rfl⟩

end Go.Proofs.Ytlmcfclonncgbaa
/- slices.Backward over terms: the iterator's contract. -/
namespace Go.Proofs.Ytlmcfclonncgbaa
open Go.RowKit
set_option linter.unusedVariables false

open Go.Shelf
attribute [local go_sem] Oper.semAt_some
/-- What a round is handed: a place, a term, its arguments' slice. -/
structure BX where
  k : Nat
  t : Tm
  A : Option Addr
  l : Nat
  c : Nat
  hk : k < 1000000
def BX.sl (x : BX) : Value := .slice x.A x.l x.c
def encs (x : BX) : Array Value := #[.int .i64 (x.k : Int), .agg #[.int .i64 x.t.kind, .string x.t.name, .int .i64 x.t.int, .int .u64 x.t.re, .int .u64 x.t.im, .slice x.A x.l x.c]]
/-- These blocks are as they were. -/
def KpS (S : Nat → Prop) (W W' : World) : Prop := ∀ k, S k → W'.heap[k]? = W.heap[k]?
theorem KpS.refl (S : Nat → Prop) (W : World) : KpS S W W := fun _ _ => rfl
theorem KpS.trans {S : Nat → Prop} {A B C : World} (h : KpS S A B) (k : KpS S B C) : KpS S A C := fun j hj => (k j hj).trans (h j hj)
theorem KpS.cell {S : Nat → Prop} {W W' : World} (h : KpS S W W') {p : Addr} (hp : S p.block) : W'.cell? p = W.cell? p := by
  unfold World.cell?; rw [h _ hp]
theorem KpS.book {S : Nat → Prop} {B : Nat} (hS : ∀ k, S k → k < B) (W : World) (l : Nat) (o o' : Obj) (hl : B ≤ l) (_ : W.heap[l]? = some o) (_ : o.isCells = false) (_ : o.isWalk = false) : KpS S W (W.putObj l o') := fun k hk =>
  World.putObj_heap_other (by have := hS k hk; omega)
/-- The first k of what comes, from behind. -/
def bwUp (es : List (Tm × Option Addr × Nat × Nat)) (h : es.length ≤ 1000000) : Nat → List BX
  | 0 => []
  | k + 1 => bwUp es h k ++ (match hh : es[es.length - 1 - k]? with
    | some e => [⟨es.length - 1 - k, e.1, e.2.1, e.2.2.1, e.2.2.2, by have := (List.getElem?_eq_some_iff.1 hh).1; omega⟩]
    | none => [])
theorem bwUp_succ {es : List (Tm × Option Addr × Nat × Nat)} {h : es.length ≤ 1000000} {k : Nat} {e : Tm × Option Addr × Nat × Nat} (he : es[es.length - 1 - k]? = some e) (hk : es.length - 1 - k < 1000000) :
    bwUp es h (k + 1) = bwUp es h k ++ [⟨es.length - 1 - k, e.1, e.2.1, e.2.2.1, e.2.2.2, hk⟩] := by
  show bwUp es h k ++ _ = _
  congr 1
  split
  · rename_i e' hh
    rw [he] at hh
    cases hh
    rfl
  · rename_i hh
    rw [he] at hh
    cases hh
theorem bwUp_next {es : List (Tm × Option Addr × Nat × Nat)} {h : es.length ≤ 1000000} {k q : Nat} {e : Tm × Option Addr × Nat × Nat} (hq : es.length - 1 - k = q) (he : es[q]? = some e) (hk : q < 1000000) :
    bwUp es h (k + 1) = bwUp es h k ++ [⟨q, e.1, e.2.1, e.2.2.1, e.2.2.2, hk⟩] := by
  subst hq
  exact bwUp_succ he hk
theorem bwUp_length {es : List (Tm × Option Addr × Nat × Nat)} {h : es.length ≤ 1000000} : ∀ k, k ≤ es.length → (bwUp es h k).length = k
  | 0, _ => rfl
  | k + 1, hk => by
    obtain ⟨e, he⟩ : ∃ e, es[es.length - 1 - k]? = some e := ⟨_, List.getElem?_eq_getElem (by omega)⟩
    rw [bwUp_succ he (by omega), List.length_append, bwUp_length k (by omega)]
    rfl
/-- The elements of a slice, cell by cell. -/
def Els (w : World) (b o : Nat) (es : List (Tm × Option Addr × Nat × Nat)) : Prop := ∀ j e, es[j]? = some e →
  w.cell? ⟨b, o + j * 6, none⟩ = some (.int .i64 e.1.kind) ∧ w.cell? ⟨b, o + j * 6 + 1, none⟩ = some (.string e.1.name) ∧ w.cell? ⟨b, o + j * 6 + 2, none⟩ = some (.int .i64 e.1.int) ∧
    w.cell? ⟨b, o + j * 6 + 3, none⟩ = some (.int .u64 e.1.re) ∧ w.cell? ⟨b, o + j * 6 + 4, none⟩ = some (.int .u64 e.1.im) ∧ w.cell? ⟨b, o + j * 6 + 5, none⟩ = some (.slice e.2.1 e.2.2.1 e.2.2.2)

set_option maxRecDepth 100000 in
set_option maxHeartbeats 4000000 in
theorem bw1_in (F : Fence) (n : Nat) (h165 : F.fn 165) (hro : F.round = none) (hn : 1 ≤ n) (l Bn b off len cap : Nat) (es : List (Tm × Option Addr × Nat × Nat)) (hlen : es.length = len) (hle : es.length ≤ 1000000) (S : Nat → Prop) (hS1 : S Bn) (hS2 : S b) (J Jx : List BX → World → Prop)
    (hY : ∀ pre x W, J pre W → pre.length < len → YieldAt F (n - 1) Try.prog l (encs x) W fun e W' =>
      (e = .returned (.bool true) ∧ J (pre ++ [x]) W' ∧ KpS S W W') ∨ (e = .returned (.bool false) ∧ Jx (pre ++ [x]) W'))
    (W : World) (hBn : W.cell? ⟨Bn, 0, none⟩ = some (.slice (some ⟨b, off, none⟩) len cap)) (hc : Els W b off es) (h0 : J [] W) :
    CallsIn F n Try.prog 165 #[.func (.yield l) #[] #[], .pointer (some ⟨Bn, 0, none⟩)] W fun e W' => (∃ v, e = .returned v) ∧
      ((∃ ys, ys = bwUp es hle len ∧ J ys W') ∨ (∃ pre, True ∧ Jx pre W')) := by
  refine callsIn_of_wp Try.func165 rfl h165 ?_ hro
  simp only [Try.ntmps165, List.size_toArray, List.length_cons, List.length_nil, Nat.reduceAdd, Nat.reduceSub, Array.replicate_succ, Array.replicate_zero, List.push_toArray, List.append_toArray, List.nil_append, List.cons_append]
  have hll : (len : Int) ≤ 1000000 := by omega
  gi_wp2
  gi_loopw [3] (fun i wr => ∃ k : Nat, k ≤ len ∧ i = .int .i64 ((len : Int) - 1 - k) ∧ J (bwUp es hle k) wr ∧ KpS S W wr) (fun i _ => (intOf i + 1).toNat)
  case atStart => exact ⟨0, Nat.zero_le _, by simp, h0, KpS.refl _ _⟩
  case round =>
    obtain ⟨k, hk, rfl, hJs, hnx⟩ := hrel
    by_cases hlt : k < len
    · obtain ⟨e, he⟩ : ∃ e, es[es.length - 1 - k]? = some e := ⟨_, List.getElem?_eq_getElem (by omega)⟩
      obtain ⟨d0, d1, d2, d3, d4, d5⟩ := hc _ e he
      obtain ⟨q, hq⟩ : ∃ q : Nat, (len : Int) - 1 - k = q := ⟨es.length - 1 - k, by omega⟩
      have hq' : es.length - 1 - k = q := by omega
      rw [hq'] at d0 d1 d2 d3 d4 d5 he
      have c0 := (hnx.cell (p := ⟨b, _, none⟩) hS2).trans d0
      have c1 := (hnx.cell (p := ⟨b, _, none⟩) hS2).trans d1
      have c2 := (hnx.cell (p := ⟨b, _, none⟩) hS2).trans d2
      have c3 := (hnx.cell (p := ⟨b, _, none⟩) hS2).trans d3
      have c4 := (hnx.cell (p := ⟨b, _, none⟩) hS2).trans d4
      have c5 := (hnx.cell (p := ⟨b, _, none⟩) hS2).trans d5
      have cb := (hnx.cell (p := ⟨Bn, 0, none⟩) hS1).trans hBn
      have hql : q < len := by omega
      have hqb : q < 1000000 := by omega
      obtain ⟨fn, tmps, assign, body, hy, hR⟩ := hY _ ⟨q, e.1, e.2.1, e.2.2.1, e.2.2.2, hqb⟩ wr hJs (by rw [bwUp_length _ (by omega)]; exact hlt)
      have hsucc := bwUp_next (h := hle) hq' he hqb
      have HS := Lib.hid hsucc
      have HE := Lib.hid he
      rw [hq]
      dsimp only [encs] at hy
      clear d0 d1 d2 d3 d4 d5 hBn hsucc he
      gi_wp2
      refine hR.mono ?_
      rintro e' W3 (⟨rfl, hJ3, hk3⟩ | ⟨rfl, hJx3⟩)
      · gi_wp2
        go_roundw
        case rel => exact ⟨k + 1, by omega, by congr 1; omega, by rw [HS.out]; exact hJ3, hnx.trans hk3⟩
        case measure => simp only [intOf]; omega
      · gi_wp2
        refine bodyPost_ret (results_none rfl _ _ _) rfl ?_
        exact ⟨⟨_, rfl⟩, .inr ⟨_, trivial, hJx3⟩⟩
    · obtain rfl : k = len := by omega
      gi_wp2
      go_end0
      exact ⟨⟨_, rfl⟩, .inl ⟨_, rfl, hJs⟩⟩

/-- A slice of terms, its elements. -/
theorem TmL.els {own : Nat → Nat} {w : World} {l : List Tm} {A : Option Addr} {len cap : Nat} (h : TmL own w l A len cap) (h0 : 0 < len) :
    ∃ es : List (Tm × Option Addr × Nat × Nat), es.length = len ∧ es.map (·.1) = l ∧ (∀ e ∈ es, TmS own w e.1 (.slice e.2.1 e.2.2.1 e.2.2.2)) ∧ ∃ b o, A = some ⟨b, o, none⟩ ∧ b < w.heap.size ∧ own b = 0 ∧ Els w b o es := by
  obtain ⟨es, hl, hq⟩ := list_of (Q := fun j (e : Tm × Option Addr × Nat × Nat) => ∃ b o, A = some ⟨b, o, none⟩ ∧ b < w.heap.size ∧ own b = 0 ∧ l[j]? = some e.1 ∧ TmS own w e.1 (.slice e.2.1 e.2.2.1 e.2.2.2) ∧ ∀ q u, (cellsT e.1 (.slice e.2.1 e.2.2.1 e.2.2.2))[q]? = some u → w.cell? ⟨b, o + j * 6 + q, none⟩ = some u) len (fun j hj => by
    obtain ⟨t, b, o, sl, h1, h2, h3, h4, h5, h6⟩ := h.get j hj
    obtain ⟨A', l', c', rfl, _⟩ := h3.args
    exact ⟨⟨t, A', l', c'⟩, b, o, h2, h4, h5, h1, h3, h6⟩)
  refine ⟨es, hl, ?_, ?_, ?_⟩
  · apply List.ext_getElem?
    intro j
    rw [List.getElem?_map]
    by_cases hj : j < len
    · obtain ⟨e, he⟩ : ∃ e, es[j]? = some e := ⟨_, List.getElem?_eq_getElem (by omega)⟩
      obtain ⟨_, _, _, _, _, h1, _⟩ := hq j e he
      rw [he, h1]; rfl
    · rw [List.getElem?_eq_none (by omega), List.getElem?_eq_none (by rw [h.1]; omega)]; rfl
  · intro e he
    obtain ⟨j, hj⟩ := List.getElem?_of_mem he
    obtain ⟨_, _, _, _, _, _, h2, _⟩ := hq j e hj
    exact h2
  · obtain ⟨e, he⟩ : ∃ e, es[0]? = some e := ⟨_, List.getElem?_eq_getElem (by omega)⟩
    obtain ⟨b, o, hA, hb, ho, _⟩ := hq 0 e he
    refine ⟨b, o, hA, hb, ho, fun j e he => ?_⟩
    obtain ⟨b', o', hA', _, _, _, _, h6⟩ := hq j e he
    rw [hA] at hA'
    simp at hA'
    obtain ⟨rfl, rfl⟩ := hA'
    exact ⟨h6 0 _ rfl, h6 1 _ rfl, h6 2 _ rfl, h6 3 _ rfl, h6 4 _ rfl, h6 5 _ rfl⟩
theorem bw_stops (F : Fence) (n : Nat) (h165 : F.fn 165) (hro : F.round = none) (hn : 1 ≤ n) (Bn b off len cap : Nat) (es : List (Tm × Option Addr × Nat × Nat)) (hlen : es.length = len) (hle : es.length ≤ 1000000) (S : Nat → Prop) (hS1 : S Bn) (hS2 : S b) (w : World)
    (hBl : Bn < w.heap.size) (hbl : b < w.heap.size) (hBn : w.cell? ⟨Bn, 0, none⟩ = some (.slice (some ⟨b, off, none⟩) len cap)) (hc : Els w b off es) :
    SeqStopsK F n Try.prog 165 #[.pointer (some ⟨Bn, 0, none⟩)] encs (KpS S) (fun ys => ys = bwUp es hle len) (fun _ => True) len w := fun l J Jx W hW _ _ hY h0 =>
  bw1_in F n h165 hro hn l Bn b off len cap es hlen hle S hS1 hS2 J Jx hY W ((hW.cell (p := ⟨Bn, 0, none⟩) hBl).trans hBn)
    (fun j e he => by
      obtain ⟨c0, c1, c2, c3, c4, c5⟩ := hc j e he
      exact ⟨(hW.cell (p := ⟨b, _, none⟩) hbl).trans c0, (hW.cell (p := ⟨b, _, none⟩) hbl).trans c1, (hW.cell (p := ⟨b, _, none⟩) hbl).trans c2, (hW.cell (p := ⟨b, _, none⟩) hbl).trans c3, (hW.cell (p := ⟨b, _, none⟩) hbl).trans c4, (hW.cell (p := ⟨b, _, none⟩) hbl).trans c5⟩) h0
set_option maxHeartbeats 1000000 in
theorem bw_any (A : Option Addr) (len cap : Nat) (w : World) : Calls Try.prog 160 #[.slice A len cap] w fun e w' => e = .returned (.func (.func 165) #[] #[.pointer (some ⟨w.heap.size, 0, none⟩)]) ∧ w' = w.alloc (.cells #[.slice A len cap] 23) := by
  go_enter Try.func160, Try.ntmps160
  go_wp2
  go_ret
  exact ⟨rfl, rfl⟩
/-- What is no cells may turn. -/
theorem Blk.grownNC {own : Nat → Nat} {id B : Nat} {w w' : World} {b : Nat} {cs : List Value} {t : TypeId} {row : Option Nat} (h : Blk own id w b cs t) (hg : w.grownBy w' row) (hr : ∀ r, row = some r → B ≤ r ∧ ∃ o : Obj, w.heap[r]? = some o ∧ o.isCells = false) : Blk own id w' b cs t := by
  refine ⟨(hg.block b h.lt (fun e => ?_)).trans h.1, h.2⟩
  obtain ⟨_, o, ho, hc⟩ := hr b e.symm
  rw [h.1] at ho
  cases ho
  cases hc
theorem Row.grownNC {own : Nat → Nat} {id B : Nat} {w w' : World} {e : TypeId} {size n : Nat} {v : Value} {xs : List Value} {row : Option Nat} (h : Row own id w e size v n xs) (hg : w.grownBy w' row) (hr : ∀ r, row = some r → B ≤ r ∧ ∃ o : Obj, w.heap[r]? = some o ∧ o.isCells = false) : Row own id w' e size v n xs := by
  refine ⟨ownsRow_move h.1 (fun k hk => hg.block k (h.lt k hk) (fun e => ?_)), h.2⟩
  obtain ⟨_, o, ho, hc⟩ := hr k e.symm
  obtain ⟨_, _, cur, hv, _, hh, _⟩ := h.1.2.resolve_left (fun h' => by rw [h'.1] at hk; simp [Value.ownBlock] at hk)
  rw [hv] at hk
  simp [Value.ownBlock] at hk
  subst hk
  rw [hh] at ho
  cases ho
  cases hc
/-- An append on a row of one's own turns the row's block alone. -/
theorem run_append_rowK {P : Program} (t ty e : TypeId) (z : Value) (size bytes : Nat)
    (ht : P.underlying t = some (.slice e)) (hinfo : (P.info? e).map (fun i => (i.zero, i.size, i.bytes)) = some (some z, size, bytes)) (hz : z.cells.size = size) (hs0 : 0 < size) (hb0 : 0 < bytes)
    {own : Nat → Nat} {id n : Nat} {W : World} {v : Value} {xs ys : List Value} (hys : ys.length = size) (h1 : ∀ u ∈ ys, u.oneCell' = true)
    (HO : Row own id W e size v n xs) (hl : (n + 1) * bytes ≤ 140737488355328) :
    ∃ g cap w1 own1, (Builtin.append_ #[t, t] ty #[v, .slice (some ⟨W.heap.size, 0, none⟩) 1 1]).run P (W.alloc (.cells ys.toArray e)) = .ok (.slice (some ⟨g, 0, none⟩) (n + 1) cap) w1 ∧
      Row own1 id w1 e size (.slice (some ⟨g, 0, none⟩) (n + 1) cap) (n + 1) (xs ++ ys) ∧ Ext own own1 [id] W w1 ∧ KeepsOthers W w1 := by
  obtain ⟨i0, hi, hzz⟩ := Option.map_eq_some_iff.1 hinfo
  simp only [Prod.mk.injEq] at hzz
  obtain ⟨hz0, hz1, hz2⟩ := hzz
  have hlen : n + 1 ≤ 140737488355328 := Nat.le_trans (Nat.le_mul_of_pos_right _ hb0) hl
  obtain ⟨v1, w1, hr, hown, hg, _, hat⟩ := run_append_own_at (P := P) (W.alloc (.cells ys.toArray e)) 0 t ty e i0 z size bytes ht hi hz0 hz1 hz2 hz hs0 v n xs (HO.1.alloc _) ⟨W.heap.size, 0, none⟩ 1 1 ys (by rw [hys]; simp)
    (by simpa using World.news_of_block (cs := ys.toArray) (t := e) (fr := (0, 0)) (heap_alloc_new W (.cells ys.toArray e))) h1 (by simp only [maxLen]; omega) hl (by simp)
  obtain ⟨g, cap, rfl⟩ : ∃ g cap, v1 = .slice (some ⟨g, 0, none⟩) (n + 1) cap := by
    rcases hown.2 with ⟨_, h⟩ | ⟨g, cap, _, h, _⟩
    · omega
    · exact ⟨g, cap, h⟩
  have hx0 : Ext own own [id] W w1 := ((Ext.refl own [id] W).alloc _).grown hg (fun k hk hlt => by rw [HO.2 k hk]; simp)
  refine ⟨g, cap, w1, giveFrom own W.heap.size id, hr, ⟨hown, ?_⟩, hx0.giveFrom _ id (Nat.le_refl _), ?_⟩
  · intro k hk
    unfold giveFrom
    by_cases hlt : W.heap.size ≤ k
    · rw [if_pos hlt]
    · rw [if_neg hlt]
      rcases hat with hat | hat
      · exact HO.2 k (hat.symm.trans hk)
      · rw [hat] at hk; simp at hk; omega
  · refine (KeepsOthers.alloc W _).trans (KeepsOthers.of_grownBy hg fun j o hj ho => ?_)
    obtain ⟨_, _, cur, hv, _, hh, _⟩ := HO.1.2.resolve_left (fun h' => by rw [h'.1] at hj; simp [Value.ownBlock] at hj)
    rw [hv] at hj
    simp [Value.ownBlock] at hj
    subst hj
    rw [(Below.heap_alloc _ _ _ (HO.lt _ (by rw [hv]; rfl))).trans hh] at ho
    cases ho
    rfl
theorem wpListIn_append_row {F : Fence} {N : Nat} {P : Program} {ops : Array Oper} {rest : List Oper} {o : Oper} {a : Act} {Q : Exit → Act → World → Prop} (hgd : o.guard = none) (s x : Operand) (t : TypeId)
    (ho : o.op = .call { callee := .builtin .append, args := #[s, x], argTypes := #[t, t] }) (e : TypeId) (z : Value) (size bytes : Nat)
    (ht : P.underlying t = some (.slice e)) (hinfo : (P.info? e).map (fun i => (i.zero, i.size, i.bytes)) = some (some z, size, bytes)) (hz : z.cells.size = size) (hs0 : 0 < size) (hb0 : 0 < bytes)
    {own : Nat → Nat} {id n : Nat} {W : World} {v : Value} {xs ys : List Value} (hs : a.eval s = v) (hx : a.eval x = .slice (some ⟨W.heap.size, 0, none⟩) 1 1) (hys : ys.length = size) (h1 : ∀ u ∈ ys, u.oneCell' = true)
    (HO : Row own id W e size v n xs) (hl : (n + 1) * bytes ≤ 140737488355328)
    (h : ∀ g cap w1 own1, Row own1 id w1 e size (.slice (some ⟨g, 0, none⟩) (n + 1) cap) (n + 1) (xs ++ ys) → Ext own own1 [id] W w1 →
      KeepsOthers W w1 → wpListIn F N P ops Q rest (a.put o.dst (.slice (some ⟨g, 0, none⟩) (n + 1) cap)) w1) :
    wpListIn F N P ops Q (o :: rest) a (W.alloc (.cells ys.toArray e)) := by
  refine wpListIn_plain hgd fun K hK => ?_
  obtain ⟨g, cap, w1, own1, hr, h2, h3, h4⟩ := run_append_rowK (P := P) t o.type e z size bytes ht hinfo hz hs0 hb0 hys h1 HO hl
  unfold Oper.wpIn
  refine ⟨?_, ?_⟩
  · simp [Oper.about, ho, resolve, Target.leads, Sem.run_pure]
  · rw [Oper.semAt_plain F _ _ (by rw [ho]; intro c hc'; cases hc')]
    simp [execOp, ho, resolve, invoke, builtin, hs, hx, hr, Result.andThen]
    exact hK _ _ (h g cap w1 own1 h2 h3 h4)

end Go.Proofs.Ytlmcfclonncgbaa
/- The layer that lays terms (package store): its state; words, variables. -/
namespace Go.Proofs.Ytlmcfclonncgbaa
open Go.RowKit
set_option linter.unusedVariables false

/-- A todo: a term, its place, laid already, its cell. -/
structure TD where
  t : Tm
  A : Option Addr
  l : Nat
  c : Nat
  at_ : Int
  laid : Bool
  x : Int
def TD.cells (y : TD) : List Value := [.int .i64 y.t.kind, .string y.t.name, .int .i64 y.t.int, .int .u64 y.t.re, .int .u64 y.t.im, .slice y.A y.l y.c, .int .i64 y.at_, .bool y.laid, .int .u64 y.x]
def tdCells (L : List TD) : List Value := L.flatMap TD.cells
theorem tdCells_append (a b : List TD) : tdCells (a ++ b) = tdCells a ++ tdCells b := by simp [tdCells]
theorem tdCells_length (L : List TD) : (tdCells L).length = L.length * 9 := by
  induction L with
  | nil => rfl
  | cons x L ih => simp only [tdCells, List.flatMap_cons, List.length_append] at *; rw [ih]; simp [TD.cells]; omega
theorem info_todo : (Try.prog.info? 127).map (fun i => (i.zero, i.size, i.bytes)) = some (some (.agg #[.int .i64 0, .string ByteArray.empty, .int .i64 0, .int .u64 0, .int .u64 0, .slice none 0 0, .int .i64 0, .bool false, .int .u64 0]), 9, 96) := by kernel_rfl
/-- The variables' cells. -/
abbrev VP (own : Nat → Nat) (id : Nat) (w : World) (p : Nat) (V : List (Int × Int)) : Prop := MV own id w Try.prog .i64 .u64 2 34 p V
theorem zero_cell (w : World) : (zeroValue 34).run Try.prog w = .ok (.int .u64 0) w := by kernel_rfl
/-- The layer's block. -/
def LB (own : Nat → Nat) (idy : Nat) (w : World) (y ph pa mb : Nat) (v : Value) : Prop := Blk own idy w y [.pointer (some ⟨ph, 0, none⟩), .pointer (some ⟨pa, 0, none⟩), .map (some mb), v] 130
/-- A cell, and what was wrong. -/
def retC (r : SS × Int × Int) : Value := .tuple #[.int .u64 r.2.1, .int .i64 r.2.2]
theorem wordsT_ok {most tag : Int} {ws l : List Int} {L : List ByteArray} {V : List (Int × Int)} {l' : List Int} (h : (l', true) = pushWs most l ws) : wordsT most tag ws ⟨l, L, V⟩ = (⟨l', L, V⟩, (l.length : Int) * 8 + tag, 0) := by
  unfold wordsT; rw [← h]; rfl
theorem wordsT_full {most tag : Int} {ws l : List Int} {L : List ByteArray} {V : List (Int × Int)} {l' : List Int} (h : (l', false) = pushWs most l ws) : wordsT most tag ws ⟨l, L, V⟩ = (⟨l', L, V⟩, 0, 4) := by
  unfold wordsT; rw [← h]; rfl
set_option maxRecDepth 100000 in
set_option maxHeartbeats 2000000 in
theorem ywords_any (L : List ByteArray) (V : List (Int × Int)) (own : Nat → Nat) (idh idy y ph pa mb : Nat) (v : Value) (most tag : Int) (l : List Int) (w : World) (hb : LB own idy w y ph pa mb v) (hh : HP own idh w ph most l) (hne : idh ≠ idy) (ht0 : 0 ≤ tag) (ht6 : tag ≤ 6)
    (b0 n : Nat) (ws : List Int) (hws : ws.length = n) (hn : n ≤ 2) (hbw : b0 < w.heap.size) (hob : own b0 ≠ idh) (hc : ∀ j, j < n → w.cell? ⟨b0, j, none⟩ = some (.int .u64 (ws.getD j 0))) :
    Calls Try.prog 122 #[.pointer (some ⟨y, 0, none⟩), .int .i64 tag, .slice (some ⟨b0, 0, none⟩) n n] w
      (Does own [idh] w fun own' e w' => e = .returned (retC (wordsT most tag ws ⟨l, L, V⟩)) ∧ HP own' idh w' ph most (wordsT most tag ws ⟨l, L, V⟩).1.l) := by
  have hlen := hh.len
  have c0 := Blk.cell hb 0 rfl
  have hn' : (n : Int) ≤ 2 := by omega
  go_enter Try.func122, Try.ntmps122
  go_wp2_with (go_at_call 31; refine (len_any own idh ph most l _ hh).mono ?_; rintro e w' ⟨rfl, dn, rfl⟩)
  have HB := Lib.hid hb
  have HC := Lib.hid hc
  have HWS := Lib.hid hws
  have hl0 : (0 : Int) ≤ l.length := by omega
  have hl1 : (l.length : Int) ≤ 1048576 := by omega
  generalize hLL : (l.length : Int) = LL at *
  have HLL := Lib.hid hLL
  clear hb hc hws c0 hlen hLL
  go_loopw [22] (fun v wr => ∃ (k : Nat) (own' : Nat → Nat) (l' : List Int), v = .int .i64 k ∧ k ≤ n ∧ Ext own own' [idh] w wr ∧ HP own' idh wr ph most l' ∧ pushWs most l' (ws.drop k) = pushWs most l ws) (fun v _ => n - (intOf v).toNat)
  case atStart => exact ⟨0, own, l, rfl, by omega, (Ext.refl _ _ _).drewN _, hh.dr _, rfl⟩
  case round =>
    obtain ⟨k, own', l', rfl, hk, x, hh', hinv⟩ := hrel
    by_cases hlt : k < n
    · have hk2 : k < ws.length := by rw [HWS.out]; exact hlt
      have cw := (x.cell (p := ⟨b0, k, none⟩) hbw (by simpa using hob)).trans (HC.out k hlt)
      have ch := Blk.cell (HB.out.keep x (by simpa using hne.symm)) 0 rfl
      have hdrop : ws.drop k = ws.getD k 0 :: ws.drop (k + 1) := by
        rw [List.drop_eq_getElem_cons hk2, List.getD, List.getElem?_eq_getElem hk2]; rfl
      rw [hdrop] at hinv
      simp only [pushWs] at hinv
      clear hdrop
      generalize ws.getD k 0 = u at *
      by_cases hroom : (l'.length : Int) < most
      · rw [if_pos hroom] at hinv
        have HI := Lib.hid hinv
        clear hinv
        go_wp2_with fail
        refine (push_room own' idh ph most u l' _ hh' hroom).mono ?_
        rintro e w2 ⟨own2, x2, rfl, hh2⟩
        go_wp2_with fail
        go_roundw
        case measure => simp [intOf]; omega
        exact ⟨k + 1, own2, _, by go_num, by omega, x.trans x2, hh2, HI.out⟩
      · rw [if_neg hroom] at hinv
        have hfull : (l'.length : Int) = most := by have := hh'.len; omega
        have HI := Lib.hid hinv
        clear hinv hroom
        go_wp2_with fail
        refine (push_full own' idh ph most u l' _ hh' hfull).mono ?_
        rintro e w2 ⟨rfl, m, rfl⟩
        go_wp2_with fail
        go_ret2
        exact ⟨own', x.drewN _, by rw [wordsT_full HI.out]; rfl, by rw [wordsT_full HI.out]; exact hh'.dr _⟩
    · obtain rfl : k = n := by omega
      have hd : ws.drop k = [] := List.drop_eq_nil_of_le (by rw [HWS.out]; exact Nat.le_refl _)
      rw [hd] at hinv
      have hinv' : (l', true) = pushWs most l ws := hinv
      have HI := Lib.hid hinv'
      clear hinv hinv' hd
      go_wp2_with (go_at_call 118; refine (make_ok _ _ _ (by omega) (by omega) (by omega) (by omega)).mono ?_; rintro e w' ⟨rfl, rfl⟩)
      go_ret2
      exact ⟨own', x, by rw [wordsT_ok HI.out, HLL.out]; rfl, by rw [wordsT_ok HI.out]; exact hh'⟩

end Go.Proofs.Ytlmcfclonncgbaa
/- An append on a row, as one step; a region that draws its order, within a round. -/
namespace Go.Proofs.Ytlmcfclonncgbaa
open Go.RowKit
set_option linter.unusedVariables false

theorem run_append_rowB {P : Program} (t ty e : TypeId) (z : Value) (size bytes : Nat)
    (ht : P.underlying t = some (.slice e)) (hinfo : (P.info? e).map (fun i => (i.zero, i.size, i.bytes)) = some (some z, size, bytes)) (hz : z.cells.size = size) (hs0 : 0 < size) (hb0 : 0 < bytes)
    {own : Nat → Nat} {id n : Nat} {W : World} {v : Value} {xs ys : List Value} (hys : ys.length = size) (h1 : ∀ u ∈ ys, u.oneCell' = true)
    (HO : Row own id W e size v n xs) (hl : (n + 1) * bytes ≤ 140737488355328) :
    ∃ g cap w1 own1, (Builtin.append_ #[t, t] ty #[v, .slice (some ⟨W.heap.size, 0, none⟩) 1 1]).run P (W.alloc (.cells ys.toArray e)) = .ok (.slice (some ⟨g, 0, none⟩) (n + 1) cap) w1 ∧
      Row own1 id w1 e size (.slice (some ⟨g, 0, none⟩) (n + 1) cap) (n + 1) (xs ++ ys) ∧ Ext own own1 [id] W w1 ∧ KeepsOthers W w1 ∧ (∀ b cs t', Blk own id W b cs t' → e ≠ t' → Blk own1 id w1 b cs t') := by
  obtain ⟨g1, cap1, w1, own1, hr1, _, _, hk⟩ := run_append_rowK (P := P) t ty e z size bytes ht hinfo hz hs0 hb0 hys h1 HO hl
  obtain ⟨g, cap, w2, own2, hr2, h2, h3, h4, _, _⟩ := run_append_later (P := P) t ty e z size bytes ht hinfo hz hs0 hb0 (W := W.alloc (.cells ys.toArray e)) ⟨W.heap.size, 0, none⟩ hys h1 HO ((Below.refl _ _).alloc (Nat.le_refl _) _)
    (by simpa using World.news_of_block (cs := ys.toArray) (t := e) (fr := (0, 0)) (heap_alloc_new W (.cells ys.toArray e))) hl
  rw [hr1] at hr2
  cases hr2
  exact ⟨_, _, _, own2, hr1, h2, h3, hk, h4⟩

theorem wanted_step {c : Prop} [Decidable c] {A E : Prop} (hc : c) (h : A) : if c then A else E := by rw [if_pos hc]; exact h
/-- The same as one step of a region that draws its order. -/
theorem wp_append_row {P : Program} {o : Oper} {a : Act} {W' : World} {K : Act → World → Prop} {Q : Exit → Act → World → Prop} (s x : Operand) (t : TypeId)
    (ho : o.op = .call { callee := .builtin .append, args := #[s, x], argTypes := #[t, t] }) (e : TypeId) (z : Value) (size bytes : Nat)
    (ht : P.underlying t = some (.slice e)) (hinfo : (P.info? e).map (fun i => (i.zero, i.size, i.bytes)) = some (some z, size, bytes)) (hz : z.cells.size = size) (hs0 : 0 < size) (hb0 : 0 < bytes)
    {own : Nat → Nat} {id n : Nat} (W : World) {v : Value} {xs : List Value} (ys : List Value) (hW : W' = W.alloc (.cells ys.toArray e)) (hs : a.eval s = v) (hx : a.eval x = .slice (some ⟨W.heap.size, 0, none⟩) 1 1) (hys : ys.length = size) (h1 : ∀ u ∈ ys, u.oneCell' = true)
    (HO : Row own id W e size v n xs) (hl : (n + 1) * bytes ≤ 140737488355328)
    (h : ∀ g cap w1 own1, Row own1 id w1 e size (.slice (some ⟨g, 0, none⟩) (n + 1) cap) (n + 1) (xs ++ ys) → Ext own own1 [id] W w1 → KeepsOthers W w1 → (∀ b cs t', Blk own id W b cs t' → e ≠ t' → Blk own1 id w1 b cs t') →
      K (a.put o.dst (.slice (some ⟨g, 0, none⟩) (n + 1) cap)) w1) : Oper.wp P o a W' K Q := by
  subst hW
  obtain ⟨g, cap, w1, own1, hr, h2, h3, h4, h5⟩ := run_append_rowB (P := P) t o.type e z size bytes ht hinfo hz hs0 hb0 hys h1 HO hl
  unfold Oper.wp execOp
  simp only [ho, resolve, invoke, builtin, Sem.run_bind, Sem.run_pure, Result.andThen_ok, List.map_toArray, List.map_cons, List.map_nil, hs, hx, hr]
  exact h g cap w1 own1 h2 h3 h4 h5

/-- An operation that defers nothing, within a round. -/
theorem oper_inRound {l n : Nat} {P : Program} {o : Oper} {a : Act} {w : World} {next next' : Act → World → Prop} {Q : Exit → Act → World → Prop} (hd : ∀ c, o.op ≠ .defer c) (hQ : ¬ LetsOut Q)
    (h : o.wp P a w next Q) (hn : ∀ a w, next a w → next' a w) : o.wpIn (Fence.wide.inRound l) n P a w next' Q := by
  refine ⟨fun _ _ => trivial, ?_⟩
  rw [Oper.semAt_eq _ _ _ hd]
  unfold Oper.wp at h
  generalize (execOp a.eval o).run P w = r at h ⊢
  unfold Oper.upon at h
  unfold Oper.uponIn
  split at h
  · exact hn _ _ h
  · exact hn _ _ h
  · exact hn _ _ h
  · refine ⟨(by intro hh; cases hh), ?_⟩
    refine CallsIn.inRound l (callsIn_wide.2 ?_)
    refine Calls.mono h ?_
    rintro (v | c | _) w'' hh
    · exact hn _ _ hh
    · exact hh
    · exact absurd hh hQ
  · refine ⟨(by intro hh; cases hh), ?_⟩
    intro c cs _
    obtain ⟨v, w', r, s⟩ := h c cs
    exact ⟨v, w', hn _ _ r, stepsIn_wide.2 s⟩
  · exact h
  · exact h.elim

/-- A region's operations, within a round. -/
theorem opsIn_inRound {l n : Nat} {P : Program} {ops : Array Oper} {Q : Exit → Act → World → Prop} (hd : ∀ (i : Nat) (o : Oper), ops[i]? = some o → ∀ c, o.op ≠ .defer c) (hQ : ¬ LetsOut Q) :
    ∀ (L : List Nat) (a : Act) (w : World), wpOps P ops Q L a w → wpOpsIn (Fence.wide.inRound l) n P ops Q L a w
  | [], _, _, h => h
  | i :: rest, a, w, h => by
    simp only [wpOps] at h
    simp only [wpOpsIn]
    split
    · rename_i ho
      rw [ho] at h
      exact opsIn_inRound hd hQ rest a w h
    · rename_i o ho
      rw [ho] at h
      simp only at h
      split
      · rename_i hw
        rw [if_pos hw] at h
        rcases h with h | h
        · exact oper_inRound (hd i o ho) hQ h (fun a w h => opsIn_inRound hd hQ rest a w h)
        · exact absurd h.2 hQ
      · rename_i hw
        rw [if_neg hw] at h
        exact ⟨fun _ _ => trivial, opsIn_inRound hd hQ rest _ w h⟩

def Oper.noDefer (o : Oper) : Bool := match o.op with
  | .defer _ => false
  | _ => true
theorem noDefer_spec {ops : Array Oper} (h : ops.all Oper.noDefer = true) (i : Nat) (o : Oper) (ho : ops[i]? = some o) (c : Call) : o.op ≠ .defer c := by
  intro e
  obtain ⟨hi, rfl⟩ := Array.getElem?_eq_some_iff.1 ho
  have := (Array.all_eq_true.1 h) i hi
  unfold Oper.noDefer at this
  rw [e] at this
  cases this

/-- A region that draws its order, within a round, where S holds all along. -/
theorem region_inRound {l n : Nat} {P : Program} {id : Nat} {ops : Array Oper} {Q : Exit → Act → World → Prop} {S : World → Prop} {a : Act} {w : World} (hm : P.follows .mixedOrders = true) (hd : ops.all Oper.noDefer = true) (hQ : ¬ LetsOut Q)
    (h : wpAnyH P .any ops Q S ops.size (Array.replicate ops.size false) a w.drew) : (Code.region id ops true).wpIn (Fence.wide.inRound l) n P Q a w :=
  wpIn_region_draw fun t => by
    simp only [Region.schedule, hm, Bool.true_or, if_true]
    exact opsIn_inRound (noDefer_spec hd) hQ _ a _ (wpAny_sound ops.size t _ a _ (wpAny_of_held _ _ _ _ h))
/-- Where nothing goes wrong, what follows then is no matter. -/
theorem wp_calm {P : Program} {c : Code} {K : Act → World → Prop} {Q : Exit → Act → World → Prop} {a : Act} {w : World} (h : c.wp P (Exit.then K (fun _ _ _ => False)) a w) : c.wp P (Exit.then K Q) a w := by
  intro b k cs
  obtain ⟨e, a', w', q, r⟩ := h b k cs
  refine ⟨e, a', w', ?_, r⟩
  cases e <;> first | exact q | exact q.elim
theorem Ext.ofDraw {o o' : Nat → Nat} {ids : List Nat} {w w' : World} (h : Ext o o' ids w.drew w') : Ext o o' ids w w' := ⟨h.os, h.tape, h.output, h.size, h.own, h.block⟩

end Go.Proofs.Ytlmcfclonncgbaa
/- A region that draws its order: loads are taken first, where what they read stands till one operation, that waits for them all, comes up. -/
namespace Go.Proofs.Ytlmcfclonncgbaa
open Go.RowKit
set_option linter.unusedVariables false

section
variable {P : Program} {ops : Array Oper} {Q : Exit → Act → World → Prop} {md : Region.Mode} {S : World → Prop} {p : Nat}
/-- S holds as long as operation p has not come up. -/
def Till (p : Nat) (S : World → Prop) (L : Array Bool) (w : World) : Prop := L.getD p true = false → S w
theorem Till.set {i : Nat} {L : Array Bool} {w : World} (h : i ≠ p) : Till p S (L.setIfInBounds i true) w ↔ Till p S L w := by
  unfold Till; rw [getD_set_ne true h]
theorem Till.gone {L : Array Bool} {w : World} (h : L.getD p true = true) : Till p S L w := fun h' => by rw [h] at h'; cases h'
def wpTill (P : Program) (md : Region.Mode) (ops : Array Oper) (Q : Exit → Act → World → Prop) (p : Nat) (S : World → Prop) : Nat → Array Bool → Act → World → Prop
  | 0, listed, a, w => Region.ready md ops listed = [] ∧ Q .normal a w
  | fuel + 1, listed, a, w => (Region.ready md ops listed = [] → Q .normal a w) ∧
    ∀ i ∈ Region.ready md ops listed, wpOp P ops Q i (fun a' w' => Till p S (listed.setIfInBounds i true) w' ∧ wpTill P md ops Q p S fuel (listed.setIfInBounds i true) a' w') a w
theorem wpTill_any : ∀ (fuel : Nat) (listed : Array Bool) (a : Act) (w : World), wpTill P md ops Q p S fuel listed a w → wpAny P md ops Q fuel listed a w
  | 0, _, _, _, h => h
  | fuel + 1, _, _, _, h => ⟨h.1, fun i hi => wpOp_mono (fun a' w' h' => wpTill_any fuel _ a' w' h'.2) (h.2 i hi)⟩
/-- Operation i, for which p waits, is taken first. -/
theorem wpTill_first {i : Nat} {oi op : Oper} {v : Value} (hi : ops[i]? = some oi) (hsel : ∀ (j : Nat) (o : Oper) cs b, ops[j]? = some o → o.op ≠ .select cs b)
    (hQ : ∀ c a w, Q (.panic c) (a.put oi.dst v) w → Q (.panic c) a w) (hip : i ≠ p) (hp : ops[p]? = some op) (hwait : ∃ e ∈ op.after, Region.binds md e = true ∧ e.on = i) :
    ∀ (fuel : Nat) (listed : Array Bool) (a : Act) (w : World),
      (∀ j oj, ops[j]? = some oj → j ≠ i → listed.getD j true = false → (∀ e ∈ oj.after, Region.binds md e = true → e.on ≠ i) → oi.apart ops oj = true) →
      i ∈ Region.ready md ops listed → YieldsIf P ops S oi v a → listed.getD p true = false → Till p S listed w →
      wpTill P md ops Q p S fuel (listed.setIfInBounds i true) (a.put oi.dst v) w → wpTill P md ops Q p S (fuel + 1) listed a w := by
  intro fuel
  induction fuel with
  | zero =>
    intro listed a w _ hr hy hp0 hS H
    refine ⟨fun h => (by rw [h] at hr; cases hr), fun j hj => ?_⟩
    by_cases hji : j = i
    · subst hji; exact hy.wpOp hi (hS hp0) ⟨(Till.set hip).2 hS, H⟩
    · have := ready_mono hj hji
      rw [H.1] at this
      cases this
  | succ fuel ih =>
    intro listed a w hfree hr hy hp0 hS H
    refine ⟨fun h => (by rw [h] at hr; cases hr), fun j hj => ?_⟩
    by_cases hji : j = i
    · subst hji; exact hy.wpOp hi (hS hp0) ⟨(Till.set hip).2 hS, H⟩
    · have h1 := H.2 j (ready_mono hj hji)
      obtain ⟨hjun, oj, hoj, hall⟩ := mem_ready.1 hj
      have hnot : ∀ e ∈ oj.after, Region.binds md e = true → e.on ≠ i := fun e he hb heq => by
        have h1 := hall e he hb
        have h0 := (mem_ready.1 hr).1
        rw [heq] at h1
        rcases Nat.lt_or_ge i listed.size with h' | h'
        · simp [h'] at h0 h1; rw [h0] at h1; cases h1
        · simp [Array.getElem?_eq_none h'] at h1
      have hjp : j ≠ p := by
        rintro rfl
        obtain ⟨e, he, hb, heq⟩ := hwait
        rw [hp] at hoj
        cases hoj
        exact hnot e he hb heq
      have h2 := wpOp_putIf hoj (hfree j oj hoj hji hjun hnot) (fun cs b => hsel i oi cs b hi) (fun cs b => hsel j oj cs b hoj) hQ hy h1
      have hfree' : ∀ k ok, ops[k]? = some ok → k ≠ i → (listed.setIfInBounds j true).getD k true = false →
          (∀ e ∈ ok.after, Region.binds md e = true → e.on ≠ i) → oi.apart ops ok = true := fun k ok hk hki hun hno => by
        refine hfree k ok hk hki ?_ hno
        by_cases hjk : j = k
        · subst hjk; exact hjun
        · rw [getD_set_ne true hjk] at hun; exact hun
      refine wpOp_mono (fun a' w' h3 => ?_) h2
      have hT : Till p S (listed.setIfInBounds j true) w' := (Till.set hjp).2 ((Till.set hip).1 ((Till.set hjp).1 h3.2.1))
      refine ⟨hT, ih (listed.setIfInBounds j true) a' w' hfree' (ready_mono hr (Ne.symm hji)) h3.1 (by rw [getD_set_ne true hjp]; exact hp0) hT ?_⟩
      rw [Array.setIfInBounds_comm _ _ hji]
      exact h3.2.2
def waits (md : Region.Mode) (ops : Array Oper) (p i : Nat) : Bool := match ops[p]? with
  | some o => i != p && o.after.any fun e => Region.binds md e && e.on == i
  | none => false
theorem wpTill_take {oi : Oper} (i : Nat) {v : Value} {fuel : Nat} {listed : Array Bool} {a : Act} {w : World} (hi : ops[i]? = some oi)
    (hs : Region.noSelect ops = true) (hf : Region.free md ops listed i = true) (hr : (Region.ready md ops listed).contains i = true) (hwt : waits md ops p i = true) (hp0 : listed.getD p true = false)
    (hQ : ∀ c a w, Q (.panic c) (a.put oi.dst v) w → Q (.panic c) a w) (hw : Region.wanted oi (yielded ops a.tmps) = true) (hS : S w) (hy : ∀ w, S w → (execOp a.eval oi).run P w = .ok (.value v) w)
    (h : wpTill P md ops Q p S fuel (listed.setIfInBounds i true) (a.put oi.dst v) w) : wpTill P md ops Q p S (fuel + 1) listed a w := by
  unfold waits at hwt
  split at hwt
  · rename_i op hop
    simp only [Bool.and_eq_true, bne_iff_ne, ne_eq, Array.any_eq_true', beq_iff_eq] at hwt
    obtain ⟨h1, e, h2, h3, h4⟩ := hwt
    exact wpTill_first hi (Region.noSelect_spec hs) hQ h1 hop ⟨e, h2, h3, h4⟩ fuel listed a w (Region.free_spec hi hf) (by simpa using hr) (Or.inl ⟨hw, hy⟩) hp0 (fun _ => hS) h
  · cases hwt
/-- What yields in whatever world is taken first, p or no p. -/
theorem wpTill_pure {oi : Oper} (i : Nat) {v : Value} {fuel : Nat} {listed : Array Bool} {a : Act} {w : World} (hi : ops[i]? = some oi) (hr : Region.ready md ops listed = [i]) (hpl : (listed.setIfInBounds i true).getD p true = true)
    (hw : Region.wanted oi (yielded ops a.tmps) = true) (hy : (execOp a.eval oi).run P w = .ok (.value v) w)
    (h : wpTill P md ops Q p S fuel (listed.setIfInBounds i true) (a.put oi.dst v) w) : wpTill P md ops Q p S (fuel + 1) listed a w := by
  refine ⟨fun h0 => (by rw [hr] at h0; cases h0), fun j hj => ?_⟩
  rw [hr] at hj
  obtain rfl := List.mem_singleton.1 hj
  exact YieldsIf.wpOp (S := fun w' => w' = w) hi (Or.inl ⟨hw, fun w' e => by rw [e]; exact hy⟩) rfl ⟨Till.gone hpl, h⟩
/-- The one operation that may come up now. -/
theorem wpTill_one {o : Oper} (i : Nat) {fuel : Nat} {listed : Array Bool} {a : Act} {w : World} (ho : ops[i]? = some o) (hr : Region.ready md ops listed = [i]) (hw : Region.wanted o (yielded ops a.tmps) = true)
    (h : ∀ K : Act → World → Prop, RowKit.Hid (∀ a w, (Till p S (listed.setIfInBounds i true) w) → wpTill P md ops Q p S fuel (listed.setIfInBounds i true) a w → K a w) → o.wp P a w K Q) : wpTill P md ops Q p S (fuel + 1) listed a w := by
  refine ⟨fun h0 => (by rw [hr] at h0; cases h0), fun j hj => ?_⟩
  rw [hr] at hj
  obtain rfl := List.mem_singleton.1 hj
  refine wpOp_step ho (fun K hK => ?_)
  rw [if_pos hw]
  exact h K (fun a w h1 h2 => hK a w ⟨h1, h2⟩)
theorem wpTill_done {listed : Array Bool} {a : Act} {w : World} (hr : Region.ready md ops listed = []) (h : Q .normal a w) : ∀ fuel, wpTill P md ops Q p S fuel listed a w
  | 0 => ⟨hr, h⟩
  | _ + 1 => ⟨fun _ => h, by rw [hr]; simp⟩
/-- The beginning. -/
theorem wp_region_till (p : Nat) (S : World → Prop) {id : Nat} {a : Act} {w : World} (hm : P.follows .mixedOrders = true)
    (h : wpTill P .any ops Q p S ops.size (Array.replicate ops.size false) a w.drew) : (Code.region id ops true).wp P Q a w :=
  wp_region_draw fun t => by
    simp only [Region.schedule, hm, Bool.true_or, if_true]
    exact wpAny_sound ops.size t _ a _ (wpTill_any _ _ _ _ h)
theorem wpIn_region_till (p : Nat) (S : World → Prop) {l n : Nat} {id : Nat} {a : Act} {w : World} (hm : P.follows .mixedOrders = true) (hd : ops.all Oper.noDefer = true) (hQ : ¬ LetsOut Q)
    (h : wpTill P .any ops Q p S ops.size (Array.replicate ops.size false) a w.drew) : (Code.region id ops true).wpIn (Fence.wide.inRound l) n P Q a w :=
  wpIn_region_draw fun t => by
    simp only [Region.schedule, hm, Bool.true_or, if_true]
    exact opsIn_inRound (noDefer_spec hd) hQ _ a _ (wpAny_sound ops.size t _ a _ (wpTill_any _ _ _ _ h))
end

end Go.Proofs.Ytlmcfclonncgbaa
/- A region that draws its order: an operation that yields in every world is taken first, whatever waits for it. -/
namespace Go.Proofs.Ytlmcfclonncgbaa
open Go.RowKit
set_option linter.unusedVariables false
set_option linter.unusedSimpArgs false

section
variable {P : Program} {ops : Array Oper} {Q : Exit → Act → World → Prop} {md : Region.Mode} {S : World → Prop} {p : Nat}
theorem wpTill_freeFirst {i : Nat} {oi : Oper} {v : Value} (hi : ops[i]? = some oi) (hsel : ∀ (j : Nat) (o : Oper) cs b, ops[j]? = some o → o.op ≠ .select cs b)
    (hQ : ∀ c a w, Q (.panic c) (a.put oi.dst v) w → Q (.panic c) a w) (hip : i ≠ p) :
    ∀ (fuel : Nat) (listed : Array Bool) (a : Act) (w : World),
      (∀ j oj, ops[j]? = some oj → j ≠ i → listed.getD j true = false → (∀ e ∈ oj.after, Region.binds md e = true → e.on ≠ i) → oi.apart ops oj = true) →
      i ∈ Region.ready md ops listed → YieldsIf P ops (fun _ => True) oi v a → Till p S listed w →
      wpTill P md ops Q p S fuel (listed.setIfInBounds i true) (a.put oi.dst v) w → wpTill P md ops Q p S (fuel + 1) listed a w := by
  intro fuel
  induction fuel with
  | zero =>
    intro listed a w _ hr hy hS H
    refine ⟨fun h => (by rw [h] at hr; cases hr), fun j hj => ?_⟩
    by_cases hji : j = i
    · subst hji; exact hy.wpOp hi trivial ⟨(Till.set hip).2 hS, H⟩
    · have := ready_mono hj hji
      rw [H.1] at this
      cases this
  | succ fuel ih =>
    intro listed a w hfree hr hy hS H
    refine ⟨fun h => (by rw [h] at hr; cases hr), fun j hj => ?_⟩
    by_cases hji : j = i
    · subst hji; exact hy.wpOp hi trivial ⟨(Till.set hip).2 hS, H⟩
    · have h1 := H.2 j (ready_mono hj hji)
      obtain ⟨hjun, oj, hoj, hall⟩ := mem_ready.1 hj
      have hnot : ∀ e ∈ oj.after, Region.binds md e = true → e.on ≠ i := fun e he hb heq => by
        have h1 := hall e he hb
        have h0 := (mem_ready.1 hr).1
        rw [heq] at h1
        rcases Nat.lt_or_ge i listed.size with h' | h'
        · simp [h'] at h0 h1; rw [h0] at h1; cases h1
        · simp [Array.getElem?_eq_none h'] at h1
      have h2 := wpOp_putIf hoj (hfree j oj hoj hji hjun hnot) (fun cs b => hsel i oi cs b hi) (fun cs b => hsel j oj cs b hoj) hQ hy h1
      have hfree' : ∀ k ok, ops[k]? = some ok → k ≠ i → (listed.setIfInBounds j true).getD k true = false →
          (∀ e ∈ ok.after, Region.binds md e = true → e.on ≠ i) → oi.apart ops ok = true := fun k ok hk hki hun hno => by
        refine hfree k ok hk hki ?_ hno
        by_cases hjk : j = k
        · subst hjk; exact hjun
        · rw [getD_set_ne true hjk] at hun; exact hun
      refine wpOp_mono (fun a' w' h3 => ?_) h2
      have h4 := h3.2
      rw [Array.setIfInBounds_comm _ _ (Ne.symm hji)] at h4
      have hT : Till p S (listed.setIfInBounds j true) w' := (Till.set hip).1 h4.1
      exact ⟨hT, ih (listed.setIfInBounds j true) a' w' hfree' (ready_mono hr (Ne.symm hji)) h3.1 hT h4.2⟩
theorem wpTill_free {oi : Oper} (i : Nat) {v : Value} {fuel : Nat} {listed : Array Bool} {a : Act} {w : World} (hi : ops[i]? = some oi)
    (hs : Region.noSelect ops = true) (hf : Region.free md ops listed i = true) (hr : (Region.ready md ops listed).contains i = true) (hip : (i != p) = true)
    (hQ : ∀ c a w, Q (.panic c) (a.put oi.dst v) w → Q (.panic c) a w) (hw : Region.wanted oi (yielded ops a.tmps) = true) (hT : Till p S listed w) (hy : ∀ w, (execOp a.eval oi).run P w = .ok (.value v) w)
    (h : wpTill P md ops Q p S fuel (listed.setIfInBounds i true) (a.put oi.dst v) w) : wpTill P md ops Q p S (fuel + 1) listed a w :=
  wpTill_freeFirst hi (Region.noSelect_spec hs) hQ (by simpa using hip) fuel listed a w (Region.free_spec hi hf) (by simpa using hr) (Or.inl ⟨hw, fun w _ => hy w⟩) hT h
end

end Go.Proofs.Ytlmcfclonncgbaa
/- A region that draws its order: a load is taken first where the operation that ends what it reads waits for it through others. -/
namespace Go.Proofs.Ytlmcfclonncgbaa
open Go.RowKit
set_option linter.unusedVariables false
set_option linter.unusedSimpArgs false

section
variable {P : Program} {ops : Array Oper} {Q : Exit → Act → World → Prop} {md : Region.Mode} {S : World → Prop} {p : Nat}
theorem not_ready {listed : Array Bool} {j x : Nat} (hw : waits md ops j x = true) (hx : listed.getD x true = false) : j ∉ Region.ready md ops listed := by
  intro hj
  obtain ⟨hjun, oj, hoj, hall⟩ := mem_ready.1 hj
  unfold waits at hw
  rw [hoj] at hw
  simp only [Bool.and_eq_true, bne_iff_ne, ne_eq, Array.any_eq_true', beq_iff_eq] at hw
  obtain ⟨_, e, he, hb, heq⟩ := hw
  have h1 := hall e he hb
  rw [heq] at h1
  rcases Nat.lt_or_ge x listed.size with h' | h'
  · simp [h'] at hx h1; rw [hx] at h1; cases h1
  · simp [Array.getElem?_eq_none h'] at h1
/-- Each waits for the next one, the last for i. -/
def chained (md : Region.Mode) (ops : Array Oper) : List Nat → Nat → Bool
  | [], _ => true
  | [j], i => waits md ops j i
  | j :: j' :: r, i => waits md ops j j' && chained md ops (j' :: r) i
theorem chain_unready {listed : Array Bool} {i : Nat} (hi : listed.getD i true = false) : ∀ L : List Nat, chained md ops L i = true → (∀ j ∈ L, listed.getD j true = false) → ∀ j ∈ L, j ∉ Region.ready md ops listed
  | [], _, _, j, hj => by simp at hj
  | [a], hc, _, j, hj => by
    simp at hj
    subst hj
    exact not_ready hc hi
  | a :: b :: r, hc, hl, j, hj => by
    simp only [chained, Bool.and_eq_true] at hc
    rcases List.mem_cons.1 hj with rfl | hj
    · exact not_ready hc.1 (hl b (by simp))
    · exact chain_unready hi (b :: r) hc.2 (fun k hk => hl k (by simp at hk ⊢; exact Or.inr hk)) j hj
theorem wpTill_chainFirst {i : Nat} {oi : Oper} {v : Value} (js : List Nat) (hi : ops[i]? = some oi) (hsel : ∀ (j : Nat) (o : Oper) cs b, ops[j]? = some o → o.op ≠ .select cs b)
    (hQ : ∀ c a w, Q (.panic c) (a.put oi.dst v) w → Q (.panic c) a w) (hip : i ≠ p) (hch : chained md ops (p :: js) i = true) :
    ∀ (fuel : Nat) (listed : Array Bool) (a : Act) (w : World),
      (∀ j oj, ops[j]? = some oj → j ≠ i → listed.getD j true = false → (∀ e ∈ oj.after, Region.binds md e = true → e.on ≠ i) → oi.apart ops oj = true) →
      i ∈ Region.ready md ops listed → YieldsIf P ops S oi v a → (∀ j ∈ p :: js, listed.getD j true = false) → Till p S listed w →
      wpTill P md ops Q p S fuel (listed.setIfInBounds i true) (a.put oi.dst v) w → wpTill P md ops Q p S (fuel + 1) listed a w := by
  intro fuel
  induction fuel with
  | zero =>
    intro listed a w _ hr hy hp0 hS H
    refine ⟨fun h => (by rw [h] at hr; cases hr), fun j hj => ?_⟩
    by_cases hji : j = i
    · subst hji; exact hy.wpOp hi (hS (hp0 p (by simp))) ⟨(Till.set hip).2 hS, H⟩
    · have := ready_mono hj hji
      rw [H.1] at this
      cases this
  | succ fuel ih =>
    intro listed a w hfree hr hy hp0 hS H
    refine ⟨fun h => (by rw [h] at hr; cases hr), fun j hj => ?_⟩
    by_cases hji : j = i
    · subst hji; exact hy.wpOp hi (hS (hp0 p (by simp))) ⟨(Till.set hip).2 hS, H⟩
    · have h1 := H.2 j (ready_mono hj hji)
      obtain ⟨hjun, oj, hoj, hall⟩ := mem_ready.1 hj
      have hiun := (mem_ready.1 hr).1
      have hnot : ∀ e ∈ oj.after, Region.binds md e = true → e.on ≠ i := fun e he hb heq => by
        have h1 := hall e he hb
        rw [heq] at h1
        rcases Nat.lt_or_ge i listed.size with h' | h'
        · simp [h'] at hiun h1; rw [hiun] at h1; cases h1
        · simp [Array.getElem?_eq_none h'] at h1
      have hjc : j ∉ p :: js := fun hm => chain_unready hiun (p :: js) hch hp0 j hm hj
      have hjp : j ≠ p := fun e => hjc (by simp [e])
      have h2 := wpOp_putIf hoj (hfree j oj hoj hji hjun hnot) (fun cs b => hsel i oi cs b hi) (fun cs b => hsel j oj cs b hoj) hQ hy h1
      have hfree' : ∀ k ok, ops[k]? = some ok → k ≠ i → (listed.setIfInBounds j true).getD k true = false →
          (∀ e ∈ ok.after, Region.binds md e = true → e.on ≠ i) → oi.apart ops ok = true := fun k ok hk hki hun hno => by
        refine hfree k ok hk hki ?_ hno
        by_cases hjk : j = k
        · subst hjk; exact hjun
        · rw [getD_set_ne true hjk] at hun; exact hun
      refine wpOp_mono (fun a' w' h3 => ?_) h2
      have hT : Till p S (listed.setIfInBounds j true) w' := (Till.set hjp).2 ((Till.set hip).1 ((Till.set hjp).1 h3.2.1))
      refine ⟨hT, ih (listed.setIfInBounds j true) a' w' hfree' (ready_mono hr (Ne.symm hji)) h3.1 (fun k hk => by
        have hjk : j ≠ k := fun e => hjc (by rw [e]; exact hk)
        rw [getD_set_ne true hjk]; exact hp0 k hk) hT ?_⟩
      rw [Array.setIfInBounds_comm _ _ hji]
      exact h3.2.2
def allUnlisted (listed : Array Bool) (L : List Nat) : Bool := L.all fun j => listed.getD j true == false
/-- Operation i, for which p waits through js, is taken first. -/
theorem wpTill_chain {oi : Oper} (i : Nat) (js : List Nat) {v : Value} {fuel : Nat} {listed : Array Bool} {a : Act} {w : World} (hi : ops[i]? = some oi)
    (hs : Region.noSelect ops = true) (hf : Region.free md ops listed i = true) (hr : (Region.ready md ops listed).contains i = true) (hip : (i != p) = true) (hch : chained md ops (p :: js) i = true) (hp0 : allUnlisted listed (p :: js) = true)
    (hQ : ∀ c a w, Q (.panic c) (a.put oi.dst v) w → Q (.panic c) a w) (hw : Region.wanted oi (yielded ops a.tmps) = true) (hS : S w) (hy : ∀ w, S w → (execOp a.eval oi).run P w = .ok (.value v) w)
    (h : wpTill P md ops Q p S fuel (listed.setIfInBounds i true) (a.put oi.dst v) w) : wpTill P md ops Q p S (fuel + 1) listed a w := by
  refine wpTill_chainFirst js hi (Region.noSelect_spec hs) hQ (by simpa using hip) hch fuel listed a w (Region.free_spec hi hf) (by simpa using hr) (Or.inl ⟨hw, hy⟩) (fun j hj => ?_) (fun _ => hS) h
  have := List.all_eq_true.1 hp0 j hj
  simpa using this
end

end Go.Proofs.Ytlmcfclonncgbaa
/- Light of several terms (package elenchusref1). -/
namespace Go.Proofs.Ytlmcfclonncgbaa
open Go.RowKit
set_option linter.unusedVariables false
set_option linter.unusedSimpArgs false

/-- Light of several: how many nodes may still come, term by term. -/
def lightA : List Tm → Nat → Int → Bool
  | [], _, _ => true
  | t :: ts, i, left => if 100 ≤ i ∨ lightF t 1 left < 0 then false else lightA ts (i + 1) (lightF t 1 left)
theorem lightA_cons (t : Tm) (ts : List Tm) (i : Nat) (left : Int) : lightA (t :: ts) i left = if 100 ≤ i ∨ lightF t 1 left < 0 then false else lightA ts (i + 1) (lightF t 1 left) := rfl
set_option maxHeartbeats 1600000 in
set_option maxRecDepth 100000 in
theorem rlight_any (args : List Tm) (A : Option Addr) (len cap : Nat) (own : Nat → Nat) (w : World) (hL : TmL own w args A len cap) :
    Calls Try.prog 23 #[.slice A len cap] w (Does own [] w fun own' e w' => e = .returned (.bool (lightA args 0 4000))) := by
  have hlen := hL.1
  have hle := hL.2.1
  have hmax := hL.2.2.1
  unfold maxLen at hmax
  have hgo : ∀ own' w', Ext own own' [] w w' → TmL own' w' args A len cap := fun own' w' x => hL.keep x (by simp)
  have HGO := Lib.hid hgo
  have HLEN := Lib.hid hlen
  clear hgo hL hlen
  go_enter Try.func23, Try.ntmps23
  go_wp2_with fail
  go_loopw [8, 3] (fun v u wr => ∃ (k : Nat) (left' : Int) (own' : Nat → Nat), v = .int .i64 k ∧ u = .int .i64 left' ∧ k ≤ len ∧ Ext own own' [] w wr ∧ 0 ≤ left' ∧ left' ≤ 4000 ∧ lightA (args.drop k) k left' = lightA args 0 4000) (fun v _ _ => len - (intOf v).toNat)
  case atStart => exact ⟨0, 4000, own, rfl, rfl, by omega, (Ext.refl _ _ _), by omega, by omega, rfl⟩
  case round =>
    obtain ⟨k, left', own', rfl, rfl, hk, x, hle0, hle1, hinv⟩ := hrel
    by_cases hlt : k < len
    · have hL := HGO.out own' wr x
      obtain ⟨b, o, rfl⟩ := hL.addr (by omega)
      obtain ⟨t, sl, ht, hT, c0, c1, c2, c3, c4, c5⟩ := hL.at k hlt
      have hdrop : args.drop k = t :: args.drop (k + 1) := by rw [List.drop_eq_getElem_cons (List.getElem?_eq_some_iff.1 ht).1, (List.getElem?_eq_some_iff.1 ht).2]
      rw [hdrop] at hinv
      obtain ⟨A', l', cp', rfl, _⟩ := hT.args
      have hlf := lightF_le t 1 left'
      have HINV := Lib.hid hinv
      have HT := Lib.hid hT
      clear hinv hT ht hdrop hL
      go_wp2_with fail
      refine (light_any t _ 1 left' own' _ ?_ (by omega) (by omega) (by omega) (by omega)).mono ?_
      · exact TmS.keep ((Ext.refl own' [] wr).alloc _) (by simp) t _ HT.out
      rintro e w2 ⟨own2, x2, rfl⟩
      have hun := HINV.out
      rw [lightA_cons] at hun
      by_cases hz : 100 ≤ k ∨ lightF t 1 left' < 0
      · rw [if_pos hz] at hun
        have HU := Lib.hid hun
        clear hun
        by_cases hi : 100 ≤ k
        · have hi' : (100 : Int) ≤ (k : Int) := by omega
          go_wp2_with fail
          go_ret
          exact ⟨own2, (x.alloc _).trans x2, by rw [← HU.out]; rfl⟩
        · have hi' : (k : Int) < 100 := by omega
          have hz' : lightF t 1 left' < 0 := by omega
          go_wp2_with fail
          go_ret
          exact ⟨own2, (x.alloc _).trans x2, by rw [← HU.out]; rfl⟩
      · rw [if_neg hz] at hun
        have HU := Lib.hid hun
        clear hun
        have hi' : (k : Int) < 100 := by omega
        have hz' : 0 ≤ lightF t 1 left' := by omega
        go_wp2_with fail
        go_roundw
        case measure => simp [intOf]; omega
        exact ⟨k + 1, _, own2, by go_num, rfl, by omega, (x.alloc _).trans x2, hz', by omega, HU.out⟩
    · obtain rfl : k = len := by omega
      have hd : args.drop k = [] := List.drop_eq_nil_of_le (by rw [HLEN.out]; exact Nat.le_refl _)
      rw [hd] at hinv
      have HINV := Lib.hid hinv
      clear hinv hd
      go_wp2_with fail
      go_ret
      exact ⟨own', x, by rw [← HINV.out]; rfl⟩

end Go.Proofs.Ytlmcfclonncgbaa
