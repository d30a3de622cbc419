/- How long Put's variables grow. In plain terms. -/
import Derived.Test.YtlmcfclonncgbaaPk8
namespace Go.Proofs.Ytlmcfclonncgbaa
open Go.RowKit
set_option linter.unusedVariables false
set_option linter.unusedSimpArgs false

theorem numL_err {L : List ByteArray} {s : ByteArray} (h : numE L s ≠ 0) : numL L s = L := by
  unfold numE at h
  unfold numL
  split
  · rfl
  · rename_i h1
    rw [if_neg h1] at h
    split
    · rfl
    · rename_i h2
      rw [if_neg h2] at h
      split
      · rfl
      · rename_i h3
        rw [if_neg h3] at h
        exact absurd rfl h
theorem numN_lt {L : List ByteArray} {s : ByteArray} (h : numE L s = 0) (hl : L.length ≤ 4096) : numN L s < 4096 := by
  unfold numE at h
  unfold numN
  split
  · decide
  · rename_i h1
    rw [if_neg h1] at h
    split
    · rename_i h2
      have : idxL L s < L.length := by simpa [memB] using h2
      omega
    · rename_i h2
      rw [if_neg h2] at h
      split
      · decide
      · rename_i h3
        omega
mutual
theorem putT_vl (most : Int) : ∀ (t : CT) (own : Int) (st : SS), (putT most t own st).1.V.length ≤ st.V.length + nodes t
  | .var n, own, st => by
    simp only [putT, varT, nodes]
    split
    · dsimp only; omega
    · split
      · split
        · simp
        · dsimp only; omega
      · simp
  | .atom s, own, st => by simp only [putT, nodes]; omega
  | .int n, own, st => by
    simp only [putT, nodes]; split
    · dsimp only; omega
    · rw [(wordsT_VL most 4 _ st).1]; omega
  | .cpx re im, own, st => by simp only [putT, nodes]; rw [(wordsT_VL most 5 _ st).1]; omega
  | .comp s args, own, st => by
    simp only [putT, nodes]
    split
    · dsimp only; rw [compT_VL]; omega
    · have z := putArgs_vl most args ((compT most s args.length st).2.1 + 1) (compT most s args.length st).1
      rw [compT_VL] at z
      dsimp only
      omega
theorem putArgs_vl (most : Int) : ∀ (l : List CT) (p : Nat) (st : SS), (putArgs most l p st).1.V.length ≤ st.V.length + nodesL l
  | [], p, st => by simp only [putArgs, nodesL]; omega
  | a :: rs, p, st => by
    simp only [putArgs, nodesL]
    have h1 := putT_vl most a p st
    split
    · dsimp only; omega
    · have z := putArgs_vl most rs (p + 1) { (putT most a p st).1 with l := (putT most a p st).1.l.set p (putT most a p st).2.1 }
      dsimp only at z ⊢
      omega
end

theorem pushRs_true (most : Int) : ∀ (k : Nat) (l l' : List Int), pushRs most l k = (l', true) → l'.length = l.length + k
  | 0, l, l', h => by unfold pushRs at h; simp only [Prod.mk.injEq, and_true] at h; subst h; rfl
  | k + 1, l, l', h => by
    unfold pushRs at h
    split at h
    · have z := pushRs_true most k _ l' h
      simp only [List.length_append, List.length_cons, List.length_nil] at z
      omega
    · simp at h
theorem pushWs_ge (most : Int) : ∀ (ws l : List Int), l.length ≤ (pushWs most l ws).1.length
  | [], l => by unfold pushWs; exact Nat.le_refl _
  | w :: ws, l => by
    unfold pushWs
    split
    · have z := pushWs_ge most ws (l ++ [w]); simp only [List.length_append, List.length_cons, List.length_nil] at z; omega
    · exact Nat.le_refl _
theorem pushRs_ge (most : Int) : ∀ (k : Nat) (l : List Int), l.length ≤ (pushRs most l k).1.length
  | 0, l => by unfold pushRs; exact Nat.le_refl _
  | k + 1, l => by
    unfold pushRs
    split
    · have z := pushRs_ge most k (l ++ [(l.length : Int) * 8]); simp only [List.length_append, List.length_cons, List.length_nil] at z; omega
    · exact Nat.le_refl _
theorem wordsT_ge (most tag : Int) (ws : List Int) (st : SS) : st.l.length ≤ (wordsT most tag ws st).1.l.length := by
  have z := pushWs_ge most ws st.l
  unfold wordsT; split <;> exact z
theorem compT_ge (most : Int) (s : ByteArray) (k : Nat) (st : SS) : st.l.length ≤ (compT most s k st).1.l.length := by
  unfold compT
  split
  · exact Nat.le_refl _
  · split
    · have z := pushRs_ge most k (st.l ++ [funC (numN st.L s).toNat k])
      simp only [List.length_append, List.length_cons, List.length_nil] at z
      dsimp only; omega
    · exact Nat.le_refl _
mutual
theorem putT_ge (most : Int) : ∀ (t : CT) (own : Int) (st : SS), st.l.length ≤ (putT most t own st).1.l.length
  | .var n, own, st => by
    simp only [putT, varT]
    split
    · exact Nat.le_refl _
    · split
      · split
        · simp
        · exact Nat.le_refl _
      · exact Nat.le_refl _
  | .atom s, own, st => by simp only [putT]; exact Nat.le_refl _
  | .int n, own, st => by
    simp only [putT]; split
    · exact Nat.le_refl _
    · exact wordsT_ge most 4 _ st
  | .cpx re im, own, st => by simp only [putT]; exact wordsT_ge most 5 _ st
  | .comp s args, own, st => by
    have h1 := compT_ge most s args.length st
    simp only [putT]
    split
    · exact h1
    · exact Nat.le_trans h1 (putArgs_ge most args _ _)
theorem putArgs_ge (most : Int) : ∀ (l : List CT) (p : Nat) (st : SS), st.l.length ≤ (putArgs most l p st).1.l.length
  | [], p, st => Nat.le_refl _
  | a :: rs, p, st => by
    have h1 := putT_ge most a p st
    simp only [putArgs]
    split
    · exact h1
    · have z := putArgs_ge most rs (p + 1) { (putT most a p st).1 with l := (putT most a p st).1.l.set p (putT most a p st).2.1 }
      simp only [List.length_set] at z
      omega
end

end Go.Proofs.Ytlmcfclonncgbaa
