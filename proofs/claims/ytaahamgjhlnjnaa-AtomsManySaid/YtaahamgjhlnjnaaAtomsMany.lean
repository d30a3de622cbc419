/- AtomsMany in plain terms: the names that it asks for. -/
import Derived.Test.YtaahamgjhlnjnaaAtomsLib
import Derived.Laws.BytesArg
import Derived.Laws.MakeOwn
namespace Go.Proofs.Ytaahamgjhlnjnaa
open Go.RowKit
set_option linter.unusedVariables false

def nameI (i : Nat) : ByteArray := strOfNums [(i : Int) % 256, (i : Int) / 256, 120]
theorem nameI_size (i : Nat) : (nameI i).size = 3 := by rw [nameI, strOfNums_size]; rfl
theorem nameI_inj {i j : Nat} (hi : i < 65536) (hj : j < 65536) (h : nameI i = nameI j) : i = j := by
  have h2 := congrArg (fun s : ByteArray => s.data.toList) h
  simp only [nameI, strOfNums_data, List.map_cons, List.map_nil, List.cons.injEq, and_true] at h2
  obtain ⟨h3, h4⟩ := h2
  have h5 := congrArg UInt8.toNat h3
  have h6 := congrArg UInt8.toNat h4
  simp at h5 h6
  omega
def manyL (i : Nat) : List ByteArray := names0 ++ (List.range i).map nameI
theorem manyL_length (i : Nat) : (manyL i).length = i + 2 := by simp [manyL, names0]
theorem manyL_not (i j : Nat) (hj : j ≤ i) (hi : i < 65536) : memB (manyL j) (nameI i) = false := by
  cases h : memB (manyL j) (nameI i) with
  | false => rfl
  | true =>
    rw [memB_iff] at h
    unfold manyL at h
    rcases List.mem_append.1 h with h | h
    · have hs := nameI_size i
      simp [names0] at h
      rcases h with h | h <;> rw [h] at hs <;> simp [ByteArray.size] at hs
    · obtain ⟨k, hk, he⟩ := List.mem_map.1 h
      rw [List.mem_range] at hk
      have := nameI_inj (by omega) hi he
      omega
theorem manyL_succ (i : Nat) : manyL (i + 1) = manyL i ++ [nameI i] := by simp [manyL, List.range_succ]
theorem many_new (i : Nat) (h : i < 4094) : numL (manyL i) (nameI i) = manyL (i + 1) ∧ numN (manyL i) (nameI i) = i + 2 ∧ numE (manyL i) (nameI i) = 0 := by
  have h1 : ¬ 200 < (nameI i).size := by rw [nameI_size]; omega
  have h2 := manyL_not i i (Nat.le_refl _) (by omega)
  have h3 : ¬ (manyL i).length = 4096 := by rw [manyL_length]; omega
  unfold numL numN numE
  simp only [if_neg h1, h2, manyL_succ, manyL_length]
  simp
  exact ⟨by omega, fun h => by omega, by omega⟩
theorem many_full (i : Nat) (h : 4094 ≤ i) (hi : i < 65536) : numL (manyL 4094) (nameI i) = manyL 4094 ∧ numN (manyL 4094) (nameI i) = 0 ∧ numE (manyL 4094) (nameI i) = 8 := by
  have h1 : ¬ 200 < (nameI i).size := by rw [nameI_size]; omega
  have h2 := manyL_not i 4094 h hi
  have h3 : (manyL 4094).length = 4096 := by rw [manyL_length]
  unfold numL numN numE
  simp [if_neg h1, h2, h3]
/-- The names behind k questions: 4096 at most. -/
def manyAt (k : Nat) : List ByteArray := manyL (min k 4094)
theorem manyAt_zero : names0 = manyAt 0 := by simp [manyAt, manyL]
theorem manyAt_length (k : Nat) : (manyAt k).length = min (k + 2) 4096 := by unfold manyAt; rw [manyL_length]; omega
theorem manyAt_new (k : Nat) (h : k < 4094) : numL (manyAt k) (nameI k) = manyAt (k + 1) ∧ numN (manyAt k) (nameI k) = k + 2 ∧ numE (manyAt k) (nameI k) = 0 := by
  unfold manyAt
  rw [Nat.min_eq_left (by omega), Nat.min_eq_left (by omega)]
  exact many_new k h
theorem manyAt_full (k : Nat) (h : 4094 ≤ k) (hi : k < 65536) : numL (manyAt k) (nameI k) = manyAt (k + 1) ∧ numN (manyAt k) (nameI k) = 0 ∧ numE (manyAt k) (nameI k) = 8 := by
  unfold manyAt
  rw [Nat.min_eq_right (by omega), Nat.min_eq_right (by omega)]
  exact many_full k h hi
/-- A name of 198 letters and more, asked of a table that is new. -/
theorem long_new (s : ByteArray) (h : 198 ≤ s.size) : numE names0 s = if s.size ≤ 200 then 0 else 3 := by
  have h2 : memB names0 s = false := by
    cases hm : memB names0 s with
    | false => rfl
    | true =>
      rw [memB_iff] at hm
      simp [names0] at hm
      rcases hm with hm | hm <;> rw [hm] at h <;> simp [ByteArray.size] at h
  have h3 : ¬ names0.length = 4096 := by decide
  unfold numE
  simp only [h2, if_neg h3]
  by_cases h4 : s.size ≤ 200
  · rw [if_pos h4, if_neg (by omega)]; rfl
  · rw [if_neg h4, if_pos (by omega)]
theorem convert3 (X : World) (a b c : Int) : (convert 41 9 (.slice (some ⟨X.heap.size, 0, none⟩) 3 3)).run Try.prog (X.alloc (.cells #[.int .u8 a, .int .u8 b, .int .u8 c] 5)) = .ok (.string (strOfNums [a, b, c])) (X.alloc (.cells #[.int .u8 a, .int .u8 b, .int .u8 c] 5)) := by
  refine run_convert_bytes_arg _ 41 5 Try.underlying41 Try.underlying5 X.heap.size 0 3 3 [a, b, c] rfl ?_ 9 Try.underlying9
  intro i hi
  rw [cell_of_row _ _ _ _ _ _ (heap_alloc_new X _)]
  match i, hi with
  | 0, _ => rfl
  | 1, _ => rfl
  | 2, _ => rfl

end Go.Proofs.Ytaahamgjhlnjnaa
