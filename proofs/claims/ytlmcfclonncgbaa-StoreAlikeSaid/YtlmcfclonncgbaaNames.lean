/- Names in a list, in plain terms: where a name stands; what asking for a number leaves. -/
import Derived.WalkKit
namespace Go.Proofs.Ytlmcfclonncgbaa
open Go.RowKit
/-- Where a name stands (its length, if nowhere). -/
def idxL : List ByteArray → ByteArray → Nat
  | [], _ => 0
  | x :: xs, s => if x = s then 0 else idxL xs s + 1
def memB (L : List ByteArray) (s : ByteArray) : Bool := decide (idxL L s < L.length)
theorem idxL_le : ∀ (L : List ByteArray) (s : ByteArray), idxL L s ≤ L.length
  | [], _ => Nat.le_refl _
  | x :: xs, s => by
    have := idxL_le xs s
    unfold idxL
    split <;> simp <;> omega
theorem idxL_get : ∀ (L : List ByteArray) (s : ByteArray), idxL L s < L.length → L[idxL L s]? = some s
  | [], _, h => by simp [idxL] at h
  | x :: xs, s, h => by
    unfold idxL at h ⊢
    split
    · rename_i e; simp [e]
    · rename_i e
      rw [if_neg e] at h
      have := idxL_get xs s (by simp at h; omega)
      simpa using this
theorem idxL_before : ∀ (L : List ByteArray) (s x : ByteArray) (j : Nat), j < idxL L s → L[j]? = some x → x ≠ s
  | [], _, _, _, h, _ => by simp [idxL] at h
  | y :: ys, s, x, j, h, hx => by
    unfold idxL at h
    split at h
    · omega
    · rename_i e
      cases j with
      | zero => simp at hx; subst hx; exact e
      | succ j => exact idxL_before ys s x j (by omega) (by simpa using hx)
theorem memB_iff {L : List ByteArray} {s : ByteArray} : memB L s = true ↔ s ∈ L := by
  unfold memB
  rw [decide_eq_true_iff]
  constructor
  · intro h
    exact List.mem_of_getElem? (idxL_get L s h)
  · intro h
    obtain ⟨j, hj⟩ := List.getElem?_of_mem h
    have hl := (List.getElem?_eq_some_iff.1 hj).1
    rcases Nat.lt_or_ge j (idxL L s) with g | g
    · exact absurd rfl (idxL_before L s s j g hj)
    · omega
theorem idxL_append : ∀ (L M : List ByteArray) (s : ByteArray), idxL L s < L.length → idxL (L ++ M) s = idxL L s
  | [], _, s, h => by simp [idxL] at h
  | x :: xs, M, s, h => by
    simp only [List.cons_append, idxL] at h ⊢
    split
    · rfl
    · rename_i e
      rw [if_neg e] at h
      rw [idxL_append xs M s (by simp at h; omega)]
theorem idxL_append_not : ∀ (L M : List ByteArray) (s : ByteArray), memB L s = false → idxL (L ++ M) s = L.length + idxL M s
  | [], M, s, _ => by simp
  | x :: xs, M, s, h => by
    have hn : ¬ x = s := by
      intro e; subst e
      simp [memB, idxL] at h
    have h2 : memB xs s = false := by
      simp only [memB, idxL, if_neg hn, decide_eq_false_iff_not] at h ⊢
      simp at h; omega
    simp only [List.cons_append, idxL, if_neg hn]
    rw [idxL_append_not xs M s h2]
    simp; omega
theorem idxL_new (L : List ByteArray) (s : ByteArray) (h : memB L s = false) : idxL (L ++ [s]) s = L.length := by
  rw [idxL_append_not L [s] s h]; simp [idxL]
theorem memB_append (L M : List ByteArray) (s : ByteArray) : memB (L ++ M) s = (memB L s || memB M s) := by
  rw [Bool.eq_iff_iff, Bool.or_eq_true, memB_iff, memB_iff, memB_iff, List.mem_append]
theorem memB_one (x s : ByteArray) : memB [x] s = decide (s = x) := by
  rw [Bool.eq_iff_iff, memB_iff]; simp
theorem idxL_inj (L : List ByteArray) (s x : ByteArray) (h : memB L s = true) (h2 : idxL L s = idxL L x) : s = x := by
  have h1 := idxL_get L s (by simpa [memB] using h)
  have h3 := idxL_get L x (by rw [← h2]; simpa [memB] using h)
  rw [← h2, h1] at h3
  simpa using h3
/-- No name twice. -/
theorem idxL_at {L : List ByteArray} (hn : L.Nodup) {j : Nat} {s : ByteArray} (h : L[j]? = some s) : idxL L s = j := by
  have hm : memB L s = true := memB_iff.2 (List.mem_of_getElem? h)
  have h2 := idxL_get L s (by simpa [memB] using hm)
  have hl := (List.getElem?_eq_some_iff.1 h).1
  have hl2 := (List.getElem?_eq_some_iff.1 h2).1
  have := (List.getElem?_inj hl hn).1 (h.trans h2.symm)
  omega


/-- What asking for a name's number leaves of the names, and what it answers. -/
def numL (L : List ByteArray) (s : ByteArray) : List ByteArray := if 200 < s.size then L else if memB L s then L else if L.length = 4096 then L else L ++ [s]
def numE (L : List ByteArray) (s : ByteArray) : Int := if 200 < s.size then 3 else if memB L s then 0 else if L.length = 4096 then 8 else 0
def numN (L : List ByteArray) (s : ByteArray) : Int := if 200 < s.size then 0 else if memB L s then idxL L s else if L.length = 4096 then 0 else L.length
/-- Names as a table has them. -/
structure Names (L : List ByteArray) : Prop where
  nodup : L.Nodup
  short : ∀ s ∈ L, s.size ≤ 200
  few : L.length ≤ 4096
  two : 2 ≤ L.length
theorem Names.num {L : List ByteArray} (h : Names L) (s : ByteArray) : Names (numL L s) := by
  unfold numL
  split
  · exact h
  · rename_i h1
    split
    · exact h
    · rename_i h2
      split
      · exact h
      · rename_i h3
        have hf := h.few
        refine ⟨?_, ?_, by simp; omega, by have := h.two; simp; omega⟩
        · rw [List.nodup_append]
          refine ⟨h.nodup, by simp, ?_⟩
          intro a ha b hb e
          simp at hb
          subst hb; subst e
          exact h2 (memB_iff.2 ha)
        · intro x hx
          rcases List.mem_append.1 hx with hx | hx
          · exact h.short x hx
          · simp at hx; subst hx; omega
theorem numL_pre (L : List ByteArray) (s : ByteArray) : ∃ M, numL L s = L ++ M ∧ M.length ≤ 1 := by
  unfold numL
  split
  · exact ⟨[], by simp, by simp⟩
  · split
    · exact ⟨[], by simp, by simp⟩
    · split
      · exact ⟨[], by simp, by simp⟩
      · exact ⟨[s], rfl, by simp⟩
/-- Asked for, a name is there. -/
theorem numL_mem (L : List ByteArray) (s : ByteArray) (h : s.size ≤ 200) (hl : L.length < 4096) : memB (numL L s) s = true ∧ numE L s = 0 ∧ numN L s = idxL (numL L s) s := by
  have hs : ¬ 200 < s.size := by omega
  have h4 : ¬ L.length = 4096 := by omega
  unfold numL numE numN
  simp only [if_neg hs, if_neg h4]
  by_cases hm : memB L s = true
  · simp only [if_pos hm]; exact ⟨hm, trivial, trivial⟩
  · have hm' : memB L s = false := by simpa using hm
    simp only [if_neg hm]
    refine ⟨?_, trivial, by rw [idxL_new L s hm']⟩
    rw [memB_append, memB_one]; simp
/-- The names that are there at first. -/
def names0 : List ByteArray := [⟨#[91, 93]⟩, ⟨#[46]⟩]

end Go.Proofs.Ytlmcfclonncgbaa
