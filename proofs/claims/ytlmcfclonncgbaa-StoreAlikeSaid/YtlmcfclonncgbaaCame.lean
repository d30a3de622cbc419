/- Slices that came in: what the row's reading of an argument says of the cells, element by element. -/
import Derived.Test.YtlmcfclonncgbaaFacts
import Derived.Test.YtlmcfclonncgbaaMem2
import Derived.Deep.Slices
import Derived.Deep.Strs
import Derived.ChangeShapes
namespace Go.Proofs.Ytlmcfclonncgbaa
open Go.RowKit

/-- The elements of a slice lie where its address says: R is what an element's cells say. -/
def Elems {α : Type} (R : α → List Value → Prop) (size : Nat) (w : World) (A : Option Addr) (xs : List α) : Prop :=
  ∀ i x, xs[i]? = some x → ∃ b o cs, A = some ⟨b, o, none⟩ ∧ b < w.heap.size ∧ R x cs ∧ cs.length = size ∧ ∀ j u, cs[j]? = some u → w.cell? ⟨b, o + (i * size + j), none⟩ = some u

structure Came {α : Type} (R : α → List Value → Prop) (size : Nat) (w : World) (A : Option Addr) (len cap : Nat) (xs : List α) : Prop where
  length : xs.length = len
  le : len ≤ cap
  max : cap ≤ maxLen
  el : Elems R size w A xs

theorem list_of {α : Type} {Q : Nat → α → Prop} : ∀ n, (∀ i, i < n → ∃ x, Q i x) → ∃ xs : List α, xs.length = n ∧ ∀ i x, xs[i]? = some x → Q i x
  | 0, _ => ⟨[], rfl, fun i x h => by simp at h⟩
  | n + 1, h => by
    obtain ⟨xs, hl, hx⟩ := list_of n (fun i hi => h i (by omega))
    obtain ⟨x, hq⟩ := h n (by omega)
    refine ⟨xs ++ [x], by simp [hl], fun i y hy => ?_⟩
    by_cases hi : i < n
    · rw [List.getElem?_append_left (by omega)] at hy
      exact hx i y hy
    · have hlt := (List.getElem?_eq_some_iff.1 hy).1
      simp [hl] at hlt
      obtain rfl : i = n := by omega
      rw [List.getElem?_append_right (by omega), hl, Nat.sub_self] at hy
      simp at hy
      subst hy
      exact hq

theorem cells_at {w : World} {a : Addr} {base n : Nat} {cs : List Value} (h : w.cells? base a n = some cs) (hn : 0 < n) (hs : a.spot = none) : a.block < w.heap.size ∧ cs.length = n ∧ ∀ j u, cs[j]? = some u → w.cell? ⟨a.block, a.off + j, none⟩ = some u := by
  obtain ⟨_, hl, hc⟩ := World.cells?_some h
  refine ⟨World.cells?_block h hn, hl, fun j u hu => ?_⟩
  have hj : j < n := by have := (List.getElem?_eq_some_iff.1 hu).1; omega
  have := hc j hj
  rw [hu] at this
  rw [← this]
  unfold Addr.add
  by_cases h0 : j = 0
  · subst h0; rw [if_pos rfl]; cases a; simp_all
  · rw [if_neg h0]

theorem spot_of {w : World} {a : Addr} {base n : Nat} {cs : List Value} (h : w.cells? base a n = some cs) (hn : 0 < n) : a.spot = none := by
  obtain ⟨_, hl, hc⟩ := World.cells?_some h
  have h0 := hc 0 hn
  obtain ⟨u, hu⟩ : ∃ u, cs[0]? = some u := ⟨_, List.getElem?_eq_getElem (by omega)⟩
  rw [hu] at h0
  simp only [Addr.add, if_true, World.cell?] at h0
  split at h0
  · split at h0
    · cases h0
    · rename_i hs; simpa using hs
  · cases h0

theorem came_of {H : Type} {enc : TypeId × Value → H} {P : Program} {w : World} {t e size : Nat} {α : Type} {R : α → List Value → Prop} (ht : P.underlying t = some (.slice e)) (hs : P.cellsOf e = size) (hs0 : 0 < size)
    (hel : ∀ n cs y, DataW.trod enc P w 0 (fun _ => true) true n e cs = some y → ∃ x, R x cs)
    {a : Option Addr} {len cap : Nat} {d : DataW H} {p : List MemPlace} (h : DataW.Trod enc P w 0 (fun _ => true) true t (.slice a len cap) d p) : ∃ xs : List α, Came R size w a len cap xs := by
  obtain ⟨fuel, hf⟩ := h
  rcases Deep.open_slice ht hf with ⟨hcs, _⟩ | ⟨ad, l, c, m, n, D, Pl, hcs, _, hlc, hcm, hm, _, hx⟩
  · simp [Value.cells] at hcs
    obtain ⟨rfl, rfl, rfl⟩ := hcs
    exact ⟨[], rfl, Nat.le_refl _, Nat.zero_le _, fun i x h => by simp at h⟩
  · simp [Value.cells] at hcs
    obtain ⟨rfl, rfl, rfl⟩ := hcs
    rw [hs] at hx
    have hlm : len ≤ m := by simp at hm; omega
    obtain ⟨xs, hl, hq⟩ := list_of (Q := fun i x => ∃ b o cs, (some ad : Option Addr) = some ⟨b, o, none⟩ ∧ b < w.heap.size ∧ R x cs ∧ cs.length = size ∧ ∀ j u, cs[j]? = some u → w.cell? ⟨b, o + (i * size + j), none⟩ = some u) len (fun i hi => by
      obtain ⟨cs', h1, h2⟩ := hx i (by omega)
      obtain ⟨x, hR⟩ := hel _ _ _ h2
      have hsp := spot_of h1 hs0
      obtain ⟨hb, hl, hc⟩ := cells_at h1 hs0 hsp
      obtain ⟨c0, h3, _⟩ := hx 0 (by omega)
      have hsp0 := spot_of h3 hs0
      have e0 : ad.spot = none := by simpa [Addr.add] using hsp0
      refine ⟨x, ad.block, ad.off, cs', ?_, ?_, hR, hl, ?_⟩
      · cases ad; simp_all
      · unfold Addr.add at hb; split at hb <;> exact hb
      · intro j u hu
        have := hc j u hu
        unfold Addr.add at this
        split at this
        · rename_i hz; rw [hz, Nat.zero_add]; exact this
        · rw [← Nat.add_assoc]; exact this)
    exact ⟨xs, hl, hlc, hcm, hq⟩

/-- What came in is there in every later world. -/
theorem Came.cell {α : Type} {R : α → List Value → Prop} {size len cap : Nat} {w w' : World} {A : Option Addr} {xs : List α} (h : Came R size w A len cap xs) (hb : Below w.heap.size w w') (i : Nat) (x : α) (hx : xs[i]? = some x) :
    ∃ b o cs, A = some ⟨b, o, none⟩ ∧ R x cs ∧ cs.length = size ∧ ∀ j u, cs[j]? = some u → w'.cell? ⟨b, o + (i * size + j), none⟩ = some u := by
  obtain ⟨b, o, cs, h1, h2, h3, h4, h5⟩ := h.el i x hx
  exact ⟨b, o, cs, h1, h3, h4, fun j u hu => (hb.cell (p := ⟨b, _, none⟩) h2).trans (h5 j u hu)⟩

def RWord (x : Int) (cs : List Value) : Prop := cs = [.int .u64 x] ∧ 0 ≤ x ∧ x < 18446744073709551616
def RStr (s : ByteArray) (cs : List Value) : Prop := cs = [.string s] ∧ s.size ≤ maxLen
/-- A call of the scripts: what, where, a cell. -/
structure GCall where
  dom : Int
  at_ : Int
  c : Int
def RCall (x : GCall) (cs : List Value) : Prop :=
  cs = [.int .i64 x.dom, .int .i64 x.at_, .int .u64 x.c] ∧ (-9223372036854775808 ≤ x.dom ∧ x.dom ≤ 9223372036854775807) ∧ (-9223372036854775808 ≤ x.at_ ∧ x.at_ ≤ 9223372036854775807) ∧ 0 ≤ x.c ∧ x.c < 18446744073709551616
def RRound (w : World) (x : List GCall) (cs : List Value) : Prop := ∃ A len cap, cs = [.slice A len cap] ∧ Came RCall 3 w A len cap x

theorem slice_cells {H : Type} {enc : TypeId × Value → H} {P : Program} {w : World} {t e n : Nat} {cs : List Value} {y : DataW H × List MemPlace} (ht : P.underlying t = some (.slice e)) (h : DataW.trod enc P w 0 (fun _ => true) true n t cs = some y) :
    ∃ A l c, cs = [.slice A l c] := by
  rcases Deep.open_slice ht h with ⟨rfl, _⟩ | ⟨ad, l, c, m, n, D, Pl, rfl, _⟩
  · exact ⟨_, _, _, rfl⟩
  · exact ⟨_, _, _, rfl⟩

theorem Came.addr {α : Type} {R : α → List Value → Prop} {size len cap : Nat} {w : World} {A : Option Addr} {xs : List α} (h : Came R size w A len cap xs) (hl : 0 < len) : ∃ b o, A = some ⟨b, o, none⟩ := by
  obtain ⟨x, hx⟩ : ∃ x, xs[0]? = some x := ⟨_, List.getElem?_eq_getElem (by rw [h.length]; exact hl)⟩
  obtain ⟨b, o, _, rfl, _⟩ := h.el 0 x hx
  exact ⟨b, o, rfl⟩
theorem Came.word {len cap b o : Nat} {w w' : World} {xs : List Int} (h : Came RWord 1 w (some ⟨b, o, none⟩) len cap xs) (hb : Below w.heap.size w w') (k : Nat) (hk : k < len) :
    w'.cell? ⟨b, o + k, none⟩ = some (.int .u64 (xs.getD k 0)) := by
  have hk' : k < xs.length := by rw [h.length]; exact hk
  obtain ⟨b', o', cs, he, hR, _, hc⟩ := h.cell hb k _ (List.getElem?_eq_getElem hk')
  simp at he
  obtain ⟨rfl, rfl⟩ := he
  have := hc 0 (.int .u64 xs[k]) (by rw [hR.1]; rfl)
  rw [Nat.mul_one, Nat.add_zero] at this
  rw [this, List.getD, List.getElem?_eq_getElem hk']
  rfl
theorem Came.word_range {len cap : Nat} {A : Option Addr} {w : World} {xs : List Int} (h : Came RWord 1 w A len cap xs) : ∀ x ∈ xs, 0 ≤ x ∧ x < 18446744073709551616 := by
  intro x hx
  obtain ⟨i, hi⟩ := List.getElem?_of_mem hx
  obtain ⟨_, _, _, _, _, hR, _⟩ := h.el i x hi
  exact hR.2
theorem take_succ_getD (xs : List Int) (k : Nat) (h : k < xs.length) : xs.take (k + 1) = xs.take k ++ [xs.getD k 0] := by
  rw [List.take_succ_eq_append_getElem h, List.getD, List.getElem?_eq_getElem h]; rfl

section
variable {H : Type} {enc : TypeId × Value → H} {w : World} {a : Option Addr} {len cap : Nat} {d : DataW H} {p : List MemPlace}
theorem open_cells (h : DataW.Trod enc Try.prog w 0 (fun _ => true) true 62 (.slice a len cap) d p) : ∃ xs : List Int, Came RWord 1 w a len cap xs := by
  refine came_of Try.underlying62 (by kernel_rfl) (by decide) (fun n cs y hy => ?_) h
  obtain ⟨x, rfl, _, hw⟩ := DataW.trod_int Try.underlying34 hy
  have := wf_u64 hw
  exact ⟨x, rfl, by omega, by omega⟩
theorem open_strs5 (h : DataW.Trod enc Try.prog w 0 (fun _ => true) true 55 (.slice a len cap) d p) : ∃ xs : List ByteArray, Came RStr 1 w a len cap xs := by
  refine came_of Try.underlying55 (by kernel_rfl) (by decide) (fun n cs y hy => ?_) h
  obtain ⟨x, rfl, _, hw⟩ := DataW.trod_string Try.underlying9 hy
  exact ⟨x, rfl, hw⟩
end

end Go.Proofs.Ytlmcfclonncgbaa
