/- Put in plain terms, by recursion and by a stack. No program in sight. -/
import Derived.Test.YtlmcfclonncgbaaRep
import Derived.Test.YtlmcfclonncgbaaNames
namespace Go.Proofs.Ytlmcfclonncgbaa
set_option linter.unusedVariables false

/-- What a Put goes on: cells, names, the variables' cells. -/
structure SS where
  l : List Int
  L : List ByteArray
  V : List (Int × Int)
def look : List (Int × Int) → Int → Option Int
  | [], _ => none
  | (k, x) :: V, n => if k = n then some x else look V n
theorem look_append (V U : List (Int × Int)) (n : Int) : look (V ++ U) n = (look V n).orElse fun _ => look U n := by
  induction V with
  | nil => rfl
  | cons a V ih =>
    obtain ⟨k, x⟩ := a
    simp only [List.cons_append, look]
    split
    · rfl
    · exact ih
theorem look_new {V : List (Int × Int)} {n x : Int} (h : look V n = none) : look (V ++ [(n, x)]) n = some x := by
  rw [look_append, h]; simp [look]
theorem look_old {V : List (Int × Int)} {n k x : Int} (h : n ≠ k) : look (V ++ [(k, x)]) n = look V n := by
  rw [look_append]
  cases h' : look V n with
  | none => simp [look, Ne.symm h]
  | some y => rfl

def pushWs (most : Int) : List Int → List Int → List Int × Bool
  | l, [] => (l, true)
  | l, w :: ws => if (l.length : Int) < most then pushWs most (l ++ [w]) ws else (l, false)
def pushRs (most : Int) : List Int → Nat → List Int × Bool
  | l, 0 => (l, true)
  | l, n + 1 => if (l.length : Int) < most then pushRs most (l ++ [(l.length : Int) * 8]) n else (l, false)
def wordsT (most : Int) (tag : Int) (ws : List Int) (st : SS) : SS × Int × Int :=
  if (pushWs most st.l ws).2 then ({ st with l := (pushWs most st.l ws).1 }, (st.l.length : Int) * 8 + tag, 0) else ({ st with l := (pushWs most st.l ws).1 }, 0, 4)
def u64 (n : Int) : Int := n % 18446744073709551616
def varT (most : Int) (n own : Int) (st : SS) : SS × Int × Int :=
  match look st.V n with
  | some c => (st, c, 0)
  | none =>
    if own < 0 then
      if (st.l.length : Int) < most then ({ st with l := st.l ++ [(st.l.length : Int) * 8], V := st.V ++ [(n, (st.l.length : Int) * 8)] }, (st.l.length : Int) * 8, 0) else (st, 0, 4)
    else ({ st with V := st.V ++ [(n, own * 8)] }, own * 8, 0)
/-- A compound's functor, its arguments' places. -/
def compT (most : Int) (s : ByteArray) (k : Nat) (st : SS) : SS × Nat × Int :=
  if numE st.L s ≠ 0 then (st, 0, numE st.L s)
  else if (st.l.length : Int) < most then
    ({ st with l := (pushRs most (st.l ++ [funC (numN st.L s).toNat k]) k).1, L := numL st.L s }, st.l.length, if (pushRs most (st.l ++ [funC (numN st.L s).toNat k]) k).2 then 0 else 4)
  else ({ st with L := numL st.L s }, 0, 4)
mutual
/-- Put: what becomes of all, the cell, what was wrong. -/
def putT (most : Int) : CT → Int → SS → SS × Int × Int
  | .var n, own, st => varT most n own st
  | .atom s, _, st => ({ st with L := numL st.L s }, numN st.L s * 8 + 2, numE st.L s)
  | .int n, _, st => if isSmall n then (st, smallC n, 0) else wordsT most 4 [u64 n] st
  | .cpx re im, _, st => wordsT most 5 [re, im] st
  | .comp s args, _, st =>
    if (compT most s args.length st).2.2 ≠ 0 then ((compT most s args.length st).1, 0, (compT most s args.length st).2.2)
    else ((putArgs most args ((compT most s args.length st).2.1 + 1) (compT most s args.length st).1).1, ((compT most s args.length st).2.1 : Int) * 8 + 1, (putArgs most args ((compT most s args.length st).2.1 + 1) (compT most s args.length st).1).2)
def putArgs (most : Int) : List CT → Nat → SS → SS × Int
  | [], _, st => (st, 0)
  | a :: as, p, st =>
    if (putT most a p st).2.2 ≠ 0 then ((putT most a p st).1, (putT most a p st).2.2)
    else putArgs most as (p + 1) { (putT most a p st).1 with l := (putT most a p st).1.l.set p (putT most a p st).2.1 }
end

/-! By a stack -/
inductive Todo where
  | todo (t : CT) (at_ : Int)
  | laid (at_ c : Int)
def Todo.w : Todo → Nat
  | .todo t _ => 2 * nodes t
  | .laid _ _ => 1
def wts : List Todo → Nat
  | [] => 0
  | x :: xs => x.w + wts xs
def todos : List CT → Nat → List Todo
  | [], _ => []
  | a :: as, p => .todo a p :: todos as (p + 1)
theorem wts_append (a b : List Todo) : wts (a ++ b) = wts a + wts b := by
  induction a with
  | nil => simp [wts]
  | cons x a ih => simp only [List.cons_append, wts, ih]; omega
theorem wts_todos : ∀ (l : List CT) (p : Nat), wts (todos l p) = 2 * nodesL l
  | [], _ => rfl
  | a :: as, p => by simp only [todos, wts, Todo.w, nodesL, wts_todos as (p + 1)]; omega
/-- A cell for a place: the cells, the first. -/
def setL' (l : List Int) (at_ c : Int) : List Int := if at_ < 0 then l else l.set at_.toNat c
def setF (first at_ c : Int) : Int := if at_ < 0 then c else first
def runS (most : Int) (stk : List Todo) (st : SS) (first : Int) : SS × Int × Int :=
  match stk with
  | [] => (st, first, 0)
  | .laid at_ c :: rest => runS most rest { st with l := setL' st.l at_ c } (setF first at_ c)
  | .todo (.comp s args) at_ :: rest =>
    if (compT most s args.length st).2.2 ≠ 0 then ((compT most s args.length st).1, 0, (compT most s args.length st).2.2)
    else runS most (todos args ((compT most s args.length st).2.1 + 1) ++ .laid at_ (((compT most s args.length st).2.1 : Int) * 8 + 1) :: rest) (compT most s args.length st).1 first
  | .todo t at_ :: rest =>
    if (putT most t at_ st).2.2 ≠ 0 then ((putT most t at_ st).1, 0, (putT most t at_ st).2.2)
    else runS most rest { (putT most t at_ st).1 with l := setL' (putT most t at_ st).1.l at_ (putT most t at_ st).2.1 } (setF first at_ (putT most t at_ st).2.1)
  termination_by wts stk
  decreasing_by
    all_goals simp only [wts, wts_append, wts_todos, Todo.w, nodes]
    all_goals (try have := nodes_pos (by assumption))
    all_goals omega
mutual
theorem run_put (most : Int) : ∀ (t : CT) (at_ : Int) (rest : List Todo) (st : SS) (first : Int),
    runS most (.todo t at_ :: rest) st first = if (putT most t at_ st).2.2 ≠ 0 then ((putT most t at_ st).1, 0, (putT most t at_ st).2.2) else runS most (.laid at_ (putT most t at_ st).2.1 :: rest) (putT most t at_ st).1 first
  | .var n, at_, rest, st, first => by
    rw [runS.eq_def]; dsimp only
    split
    · rfl
    · conv => rhs; rw [runS.eq_def]
  | .atom n, at_, rest, st, first => by
    rw [runS.eq_def]; dsimp only
    split
    · rfl
    · conv => rhs; rw [runS.eq_def]
  | .int n, at_, rest, st, first => by
    rw [runS.eq_def]; dsimp only
    split
    · rfl
    · conv => rhs; rw [runS.eq_def]
  | .cpx re im, at_, rest, st, first => by
    rw [runS.eq_def]; dsimp only
    split
    · rfl
    · conv => rhs; rw [runS.eq_def]
  | .comp s args, at_, rest, st, first => by
    rw [runS.eq_def]; dsimp only
    by_cases h : (compT most s args.length st).2.2 ≠ 0
    · have e : putT most (.comp s args) at_ st = ((compT most s args.length st).1, 0, (compT most s args.length st).2.2) := by simp only [putT]; rw [if_pos h]
      rw [if_pos h, e]
      dsimp only
      rw [if_pos h]
    · have e : putT most (.comp s args) at_ st = ((putArgs most args ((compT most s args.length st).2.1 + 1) (compT most s args.length st).1).1, ((compT most s args.length st).2.1 : Int) * 8 + 1, (putArgs most args ((compT most s args.length st).2.1 + 1) (compT most s args.length st).1).2) := by simp only [putT]; rw [if_neg h]
      rw [if_neg h, run_args most args, e]
theorem run_args (most : Int) : ∀ (l : List CT) (p : Nat) (rest : List Todo) (st : SS) (first : Int),
    runS most (todos l p ++ rest) st first = if (putArgs most l p st).2 ≠ 0 then ((putArgs most l p st).1, 0, (putArgs most l p st).2) else runS most rest (putArgs most l p st).1 first
  | [], p, rest, st, first => by simp [todos, putArgs]
  | a :: as, p, rest, st, first => by
    simp only [todos, List.cons_append, putArgs]
    rw [run_put most a]
    by_cases h : (putT most a p st).2.2 ≠ 0
    · rw [if_pos h, if_pos h, if_pos h]
    · rw [if_neg h, if_neg h, runS.eq_def]
      dsimp only
      have e1 : setF first (p : Int) (putT most a p st).2.1 = first := by unfold setF; rw [if_neg (by omega)]
      have e2 : setL' (putT most a p st).1.l (p : Int) (putT most a p st).2.1 = (putT most a p st).1.l.set p (putT most a p st).2.1 := by unfold setL'; rw [if_neg (by omega)]; simp
      rw [e1, e2, run_args most as]
end
/-- By a stack it is as by recursion. -/
theorem run_one (most : Int) (t : CT) (st : SS) : runS most [.todo t (-1)] st 0 = if (putT most t (-1) st).2.2 ≠ 0 then ((putT most t (-1) st).1, 0, (putT most t (-1) st).2.2) else ((putT most t (-1) st).1, (putT most t (-1) st).2.1, 0) := by
  rw [run_put]
  split
  · rfl
  · rw [runS.eq_def]; dsimp only
    rw [runS.eq_def]
    simp [setL', setF]
end Go.Proofs.Ytlmcfclonncgbaa
