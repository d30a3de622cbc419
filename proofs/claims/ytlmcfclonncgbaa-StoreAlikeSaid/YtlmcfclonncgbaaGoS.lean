/- May by a stack is May by recursion. No program in sight. -/
import Derived.Test.YtlmcfclonncgbaaTree
namespace Go.Proofs.Ytlmcfclonncgbaa
set_option linter.unusedVariables false

mutual
def nT : Tm → Nat
  | .mk _ _ _ _ _ args => nTs args + 1
def nTs : List Tm → Nat
  | [] => 0
  | t :: ts => nT t + nTs ts
end
def kidsOf (t : Tm) (d : Nat) : List (Tm × Nat) := if t.kind = 5 then t.args.map (fun a => (a, d + 1)) else []
def wtS : List (Tm × Nat) → Nat
  | [] => 0
  | p :: ps => nT p.1 + wtS ps
theorem wtS_append (a b : List (Tm × Nat)) : wtS (a ++ b) = wtS a + wtS b := by
  induction a with
  | nil => simp [wtS]
  | cons p a ih => simp only [List.cons_append, wtS, ih]; omega
theorem wtS_map (l : List Tm) (d : Nat) : wtS (l.map (fun a => (a, d))) = nTs l := by
  induction l with
  | nil => rfl
  | cons t l ih => simp only [List.map_cons, wtS, nTs, ih]
theorem wtS_kids (t : Tm) (d : Nat) : wtS (kidsOf t d) < nT t := by
  unfold kidsOf
  obtain ⟨k, s, n, re, im, args⟩ := t
  split
  · show wtS (args.map (fun a => (a, d + 1))) < nTs args + 1
    rw [wtS_map]; omega
  · simp [wtS, nT]
/-- A walk by a stack: what is wrong. -/
def goS (stk : List (Tm × Nat)) (n : Nat) : Int :=
  match stk with
  | [] => 0
  | (t, d) :: rest => if n = 2000 ∨ 500 < d then 3 else if oneE t ≠ 0 then oneE t else goS (kidsOf t d ++ rest) (n + 1)
  termination_by wtS stk
  decreasing_by
    simp only [wtS, wtS_append]
    have := wtS_kids t d
    omega
mutual
theorem goS_may : ∀ (t : Tm) (d n : Nat) (rest : List (Tm × Nat)), n ≤ 2000 → goS ((t, d) :: rest) n = if (mayF t d (n, 0)).2 ≠ 0 then (mayF t d (n, 0)).2 else goS rest (mayF t d (n, 0)).1
  | .mk k s i re im args, d, n, rest, hn => by
    rw [goS.eq_def]
    dsimp only
    unfold mayF
    dsimp only
    rw [if_neg (show ¬ ((0 : Int) ≠ 0) by simp)]
    by_cases h1 : n = 2000 ∨ 500 < d
    · rw [if_pos h1, if_pos (show 2000 < n + 1 ∨ 500 < d by omega)]
      simp
    · rw [if_neg h1, if_neg (show ¬ (2000 < n + 1 ∨ 500 < d) by omega)]
      by_cases h2 : oneE (.mk k s i re im args) ≠ 0
      · rw [if_pos h2, if_pos h2]
        simp only
        rw [if_pos h2]
      · rw [if_neg h2, if_neg h2]
        by_cases h5 : k = 5
        · rw [if_pos h5]
          have e : kidsOf (.mk k s i re im args) d = args.map (fun a => (a, d + 1)) := by unfold kidsOf; rw [if_pos (by exact h5)]; rfl
          rw [e]
          exact goSs_may args (d + 1) (n + 1) rest (by omega)
        · rw [if_neg h5]
          have e : kidsOf (.mk k s i re im args) d = [] := by unfold kidsOf; rw [if_neg (by exact h5)]
          rw [e]
          simp
theorem goSs_may : ∀ (l : List Tm) (d n : Nat) (rest : List (Tm × Nat)), n ≤ 2000 → goS (l.map (fun a => (a, d)) ++ rest) n = if (mayFs l d (n, 0)).2 ≠ 0 then (mayFs l d (n, 0)).2 else goS rest (mayFs l d (n, 0)).1
  | [], d, n, rest, _ => by simp [mayFs]
  | t :: ts, d, n, rest, hn => by
    simp only [List.map_cons, List.cons_append]
    rw [goS_may t d n _ hn]
    unfold mayFs
    obtain ⟨m, e⟩ : ∃ p, mayF t d (n, 0) = p := ⟨_, rfl⟩
    obtain ⟨m, e0⟩ := m
    rw [e]
    by_cases h : e0 = 0
    · subst h
      have hm := (mayF_ok t d n m e).2.2
      have hb := (mayF_ok t d n m e).2.1.2.2
      simp only
      rw [if_neg (by simp), goSs_may ts d m rest (by omega)]
    · rw [mayFs_err ts d m e0 h]
      simp [h]
end
theorem goS_one (t : Tm) : goS [(t, 1)] 0 = mayE t := by
  rw [goS_may t 1 0 [] (by omega)]
  unfold mayE
  split
  · rfl
  · rename_i h
    rw [goS.eq_def]
    exact (Classical.not_not.1 h).symm
end Go.Proofs.Ytlmcfclonncgbaa
