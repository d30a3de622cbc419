/- A row of references comes to its end, whatever stands there. Plain law. -/
import Derived.Test.YtaahamgjhlnjnaaDeref
namespace Go.Proofs.Ytaahamgjhlnjnaa
open Go.RowKit
set_option linter.unusedVariables false

/-- The row of references: each leads to the one ahead of it, the first to place n. -/
def chainL (n J : Nat) : List Int := (List.range J).map fun i => ((n + i : Nat) : Int) * 8
theorem chainL_succ (n J : Nat) : chainL n (J + 1) = chainL n J ++ [((n + J : Nat) : Int) * 8] := by simp [chainL, List.range_succ]
theorem chain_snoc (base : List Int) (n J : Nat) : base ++ chainL n J ++ [((n + J : Nat) : Int) * 8] = base ++ chainL n (J + 1) := by rw [chainL_succ, List.append_assoc]
theorem chainL_length (n J : Nat) : (chainL n J).length = J := by simp [chainL]
theorem chain_at (base : List Int) (n J : Nat) (x : Int) (hb : base.length = n) : (base ++ [x] ++ chainL n J).getD n 0 = x := by
  simp [List.getD, hb]
theorem chain_get (base : List Int) (n J j : Nat) (x : Int) (hb : base.length = n) (hj : j < J) : (base ++ [x] ++ chainL n J).getD (n + 1 + j) 0 = ((n + j : Nat) : Int) * 8 := by
  have h1 : ¬ n + 1 + j < (base ++ [x]).length := by simp [hb]
  simp only [List.getD]
  rw [List.getElem?_append, if_neg h1]
  have h2 : n + 1 + j - (base ++ [x]).length = j := by simp [hb]
  rw [h2]
  simp [chainL, hj]
theorem chain_deref (base : List Int) (n J : Nat) (x : Int) (hb : base.length = n) (hx : x = (n : Int) * 8 ∨ x % 8 ≠ 0) :
    ∀ j f, j ≤ J → j + 1 ≤ f → derefF (base ++ [x] ++ chainL n J) f (((n + j : Nat) : Int) * 8) = x := by
  have hl : (base ++ [x] ++ chainL n J).length = n + 1 + J := by simp only [List.length_append, chainL_length, hb, List.length_cons, List.length_nil]
  intro j
  induction j with
  | zero =>
    intro f _ hf
    obtain ⟨f, rfl⟩ : ∃ g, f = g + 1 := ⟨f - 1, by omega⟩
    have hd : (((n + 0 : Nat) : Int) * 8 / 8).toNat = n := by omega
    simp only [derefF, hd]
    rw [if_pos ⟨by omega, by rw [hl]; omega⟩, chain_at base n J x hb]
    by_cases e : x = ((n + 0 : Nat) : Int) * 8
    · rw [if_pos e, e]
    · rw [if_neg e]
      exact derefF_stop _ _ _ (by omega)
  | succ j ih =>
    intro f hj hf
    obtain ⟨f, rfl⟩ : ∃ g, f = g + 1 := ⟨f - 1, by omega⟩
    have hd : (((n + (j + 1) : Nat) : Int) * 8 / 8).toNat = n + 1 + j := by omega
    simp only [derefF, hd]
    rw [if_pos ⟨by omega, by rw [hl]; omega⟩, chain_get base n J j x hb (by omega), if_neg (by omega)]
    exact ih f (by omega) (by omega)
theorem chain_end (base : List Int) (n J : Nat) (x : Int) (hb : base.length = n) (hx : x = (n : Int) * 8 ∨ x % 8 ≠ 0) : deref (base ++ [x] ++ chainL n J) (((n + J : Nat) : Int) * 8) = x := by
  unfold deref
  exact chain_deref base n J x hb hx J _ (Nat.le_refl _) (by simp only [List.length_append, chainL_length, hb, List.length_cons, List.length_nil]; omega)
theorem chain_set (base : List Int) (n J : Nat) (x y : Int) (hb : base.length = n) : (base ++ [x] ++ chainL n J).set n y = base ++ [y] ++ chainL n J := by
  rw [List.set_append, if_pos (by simp [hb]), List.set_append, if_neg (by omega), hb, Nat.sub_self]
  rfl
theorem chain_nonneg (base : List Int) (n J : Nat) (x : Int) (h : ∀ y ∈ base, 0 ≤ y) (hx : 0 ≤ x) : ∀ y ∈ base ++ [x] ++ chainL n J, 0 ≤ y := by
  intro y hy
  simp only [List.mem_append, List.mem_singleton, chainL, List.mem_map] at hy
  rcases hy with (hy | rfl) | ⟨i, _, rfl⟩
  · exact h y hy
  · exact hx
  · omega
theorem chain_take (base : List Int) (n J m j : Nat) (x : Int) (hb : base.length = n) (hm : m ≤ n) (hj : j < m) : ((base ++ [x] ++ chainL n J).take m).getD j 0 = base.getD j 0 := by
  rw [List.append_assoc, List.take_append_of_le_length (by omega)]
  simp only [List.getD, List.getElem?_take]
  rw [if_pos hj]

end Go.Proofs.Ytaahamgjhlnjnaa
