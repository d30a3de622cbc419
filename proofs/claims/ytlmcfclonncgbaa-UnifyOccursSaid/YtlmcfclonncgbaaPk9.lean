/- Texts that stand together: Uni, Vis, Vis2, Vis3. -/
import Derived.Test.YtlmcfclonncgbaaPk1
import Derived.Test.YtlmcfclonncgbaaDeref
import Derived.Test.YtlmcfclonncgbaaPk2
import Derived.BigQuiet
import Derived.Deep.QuietTactic
/- Terms made one, in plain terms: what the visits come to, on cells; that a cell may stand for another that comes to the same. No program in sight. -/
namespace Go.Proofs.Ytlmcfclonncgbaa
set_option linter.unusedVariables false

/-- A functor, and its arguments, are there. -/
def fnB (l : List Int) (v : Nat) : Bool := decide (v < l.length) && decide (l.getD v 0 % 8 = 6) && decide (1 ≤ l.getD v 0 / 8 % 256) && decide (l.getD v 0 / 8 % 256 ≤ 20) && decide (v + (l.getD v 0 / 8 % 256).toNat < l.length)
def varB (l : List Int) (c : Int) : Bool := decide (c % 8 = 0) && decide (c / 8 < l.length) && decide (l.getD (c / 8).toNat 0 = c)
/-- A cell, followed to its end, stands for something. -/
def isB (l : List Int) (c : Int) : Bool :=
  if c % 8 = 0 then varB l c else if c % 8 = 1 then fnB l (c / 8).toNat else if c % 8 = 2 then true else if c % 8 = 3 then true
  else if c % 8 = 4 then decide (c / 8 < l.length) else if c % 8 = 5 then decide (c / 8 + 1 < l.length) else false
def arityN (l : List Int) (d : Int) : Nat := (l.getD (d / 8).toNat 0 / 8 % 256).toNat
def argsL (l : List Int) (d : Int) : List Int := (l.drop ((d / 8).toNat + 1)).take (arityN l d)
/-- Does a variable stand in one of the cells? Whether, what is wrong, the visits left. -/
def occF (l : List Int) (x : Int) : Nat → List Int → Bool × Int × Nat
  | 0, s => (false, if s = [] then 0 else 3, 0)
  | f + 1, [] => (false, 0, f + 1)
  | f + 1, c :: s =>
    if isB l (deref l c) = false then (false, 2, f)
    else if deref l c = x then (true, 0, f)
    else if deref l c % 8 = 1 then occF l x f (argsL l (deref l c) ++ s)
    else occF l x f s
def sgn (x : Int) : Int := if x < 9223372036854775808 then x else x - 18446744073709551616
def numB (l : List Int) (c : Int) : Int := if c % 8 = 4 then sgn (l.getD (c / 8).toNat 0) else sgn c / 8
def intB (c : Int) : Bool := decide (c % 8 = 3) || decide (c % 8 = 4)
/-- Two that are no variables: of one kind and the same, arguments aside. -/
def alikeB (l : List Int) (a b : Int) : Bool :=
  if intB a && intB b then decide (numB l a = numB l b)
  else if a % 8 ≠ b % 8 then false
  else if a % 8 = 2 then decide (a = b)
  else if a % 8 = 5 then decide (l.getD (a / 8).toNat 0 = l.getD (b / 8).toNat 0) && decide (l.getD ((a / 8).toNat + 1) 0 = l.getD ((b / 8).toNat + 1) 0)
  else decide (l.getD (a / 8).toNat 0 = l.getD (b / 8).toNat 0)
abbrev Tr := List (Int × Int)
/-- A variable is bound: the later one to the earlier. -/
def bindP (l : List Int) (a b : Int) : Int × Int := if varB l b && decide (a / 8 < b / 8) then (b, a) else (a, b)
def bindL (l : List Int) (a b : Int) : List Int := if a = b then l else l.set ((bindP l a b).1 / 8).toNat (bindP l a b).2
def bindT (l : List Int) (T : Tr) (a b : Int) : Tr := if a = b then T else T ++ [((bindP l a b).1 / 8, l.getD ((bindP l a b).1 / 8).toNat 0)]
abbrev UR := Bool × Int × List Int × Tr × Nat
def bindS (l : List Int) (T : Tr) (x c : Int) (r : Bool × Int × Nat) : UR :=
  if r.1 = true ∨ r.2.1 ≠ 0 then (false, r.2.1, l, T, r.2.2) else (true, 0, bindL l x c, bindT l T x c, r.2.2)
/-- A pair of ends. -/
def uStep (l : List Int) (T : Tr) (f : Nat) (a b : Int) : UR :=
  if isB l a = false ∨ isB l b = false then (false, 2, l, T, f)
  else if varB l a = true ∧ varB l b = true then (true, 0, bindL l a b, bindT l T a b, f)
  else if varB l a = true then bindS l T a b (occF l a f [b])
  else if varB l b = true then bindS l T b a (occF l b f [a])
  else (alikeB l a b, 0, l, T, f)
def uPush (l : List Int) (a b : Int) : List (Int × Int) := if a % 8 = 1 ∧ b % 8 = 1 then (argsL l a).zip (argsL l b) else []
/-- Pairs made one: whether, what is wrong, the cells, what was written over, the visits left. (k: a bound.) -/
def uniK : Nat → Nat → List Int → Tr → List (Int × Int) → UR
  | _, f, l, T, [] => (true, 0, l, T, f)
  | 0, f, l, T, _ => (false, 3, l, T, f)
  | _, 0, l, T, _ => (false, 3, l, T, 0)
  | k + 1, f + 1, l, T, (c, d) :: s =>
    if (uStep l T f (deref l c) (deref l d)).1 = true then
      uniK k (uStep l T f (deref l c) (deref l d)).2.2.2.2 (uStep l T f (deref l c) (deref l d)).2.2.1 (uStep l T f (deref l c) (deref l d)).2.2.2.1 (uPush l (deref l c) (deref l d) ++ s)
    else uStep l T f (deref l c) (deref l d)
def uni (f : Nat) (l : List Int) (T : Tr) (s : List (Int × Int)) : UR := uniK f f l T s

theorem occF_le (l : List Int) (x : Int) : ∀ (f : Nat) (s : List Int), (occF l x f s).2.2 ≤ f
  | 0, s => by unfold occF; exact Nat.le_refl _
  | f + 1, [] => by unfold occF; exact Nat.le_refl _
  | f + 1, c :: s => by
    unfold occF
    split
    · exact Nat.le_succ _
    · split
      · exact Nat.le_succ _
      · split
        · exact Nat.le_succ_of_le (occF_le l x f _)
        · exact Nat.le_succ_of_le (occF_le l x f _)
theorem occF_nil (l : List Int) (x : Int) (f : Nat) : occF l x f [] = (false, 0, f) := by cases f <;> rfl
theorem occF_yes_err (l : List Int) (x : Int) : ∀ (f : Nat) (s : List Int), (occF l x f s).1 = true → (occF l x f s).2.1 = 0
  | 0, s, h => by unfold occF at h; simp at h
  | f + 1, [], h => by unfold occF at h; simp at h
  | f + 1, c :: s, h => by
    unfold occF at h ⊢
    split at h
    · simp at h
    · split at h
      · rename_i h1 h2; rw [if_neg h1, if_pos h2]
      · rename_i h1 h2
        rw [if_neg h1, if_neg h2]
        split at h
        · rename_i h3; rw [if_pos h3]; exact occF_yes_err l x f _ h
        · rename_i h3; rw [if_neg h3]; exact occF_yes_err l x f _ h
/-- Cells one behind the other. -/
theorem occF_append (l : List Int) (x : Int) : ∀ (f : Nat) (s t : List Int), occF l x f (s ++ t) = if (occF l x f s).1 = false ∧ (occF l x f s).2.1 = 0 then occF l x (occF l x f s).2.2 t else occF l x f s
  | f, [], t => by rw [occF_nil]; simp
  | 0, c :: s, t => by simp [occF]
  | f + 1, c :: s, t => by
    have e : c :: s ++ t = c :: (s ++ t) := rfl
    rw [e]
    simp only [occF]
    split
    · simp
    · split
      · simp
      · split
        · rw [← List.append_assoc]; exact occF_append l x f _ t
        · exact occF_append l x f s t
theorem bindS_le (l : List Int) (T : Tr) (x c : Int) (r : Bool × Int × Nat) : (bindS l T x c r).2.2.2.2 = r.2.2 := by unfold bindS; split <;> rfl
theorem uStep_le (l : List Int) (T : Tr) (f : Nat) (a b : Int) : (uStep l T f a b).2.2.2.2 ≤ f := by
  unfold uStep
  split
  · exact Nat.le_refl _
  · split
    · exact Nat.le_refl _
    · split
      · rw [bindS_le]; exact occF_le _ _ _ _
      · split
        · rw [bindS_le]; exact occF_le _ _ _ _
        · exact Nat.le_refl _
theorem uniK_nil (k f : Nat) (l : List Int) (T : Tr) : uniK k f l T [] = (true, 0, l, T, f) := by unfold uniK; rfl
theorem uniK_zero (k : Nat) (l : List Int) (T : Tr) (p : Int × Int) (s : List (Int × Int)) : uniK k 0 l T (p :: s) = (false, 3, l, T, 0) := by cases k <;> rfl
theorem uniK_same : ∀ (k k' f : Nat) (l : List Int) (T : Tr) (s : List (Int × Int)), f ≤ k → f ≤ k' → uniK k f l T s = uniK k' f l T s
  | _, _, f, l, T, [], _, _ => by rw [uniK_nil, uniK_nil]
  | k, k', 0, l, T, p :: s, _, _ => by rw [uniK_zero, uniK_zero]
  | 0, k', f + 1, l, T, (c, d) :: s, h, _ => by omega
  | k + 1, 0, f + 1, l, T, (c, d) :: s, _, h => by omega
  | k + 1, k' + 1, f + 1, l, T, (c, d) :: s, h, h' => by
    have hle := uStep_le l T f (deref l c) (deref l d)
    simp only [uniK]
    split
    · exact uniK_same k k' _ _ _ _ (by omega) (by omega)
    · rfl
theorem uni_nil (f : Nat) (l : List Int) (T : Tr) : uni f l T [] = (true, 0, l, T, f) := uniK_nil _ _ _ _
theorem uni_zero (l : List Int) (T : Tr) (p : Int × Int) (s : List (Int × Int)) : uni 0 l T (p :: s) = (false, 3, l, T, 0) := uniK_zero _ _ _ _ _
theorem uni_succ (f : Nat) (l : List Int) (T : Tr) (c d : Int) (s : List (Int × Int)) : uni (f + 1) l T ((c, d) :: s) =
    if (uStep l T f (deref l c) (deref l d)).1 = true then
      uni (uStep l T f (deref l c) (deref l d)).2.2.2.2 (uStep l T f (deref l c) (deref l d)).2.2.1 (uStep l T f (deref l c) (deref l d)).2.2.2.1 (uPush l (deref l c) (deref l d) ++ s)
    else uStep l T f (deref l c) (deref l d) := by
  have hle := uStep_le l T f (deref l c) (deref l d)
  unfold uni
  rw [show uniK (f + 1) (f + 1) l T ((c, d) :: s) = _ from by unfold uniK; rfl]
  split
  · exact uniK_same _ _ _ _ _ _ hle (Nat.le_refl _)
  · rfl
theorem bindS_err (l : List Int) (T : Tr) (x c : Int) (r : Bool × Int × Nat) (h : (bindS l T x c r).1 = true) : (bindS l T x c r).2.1 = 0 := by
  unfold bindS at h ⊢
  split at h
  · simp at h
  · rename_i h1; rw [if_neg h1]
theorem uStep_err (l : List Int) (T : Tr) (f : Nat) (a b : Int) (h : (uStep l T f a b).1 = true) : (uStep l T f a b).2.1 = 0 := by
  unfold uStep at h ⊢
  split at h
  · simp at h
  · rename_i h1; rw [if_neg h1]
    split at h
    · rename_i h2; rw [if_pos h2]
    · rename_i h2; rw [if_neg h2]
      split at h
      · rename_i h3; rw [if_pos h3]; exact bindS_err _ _ _ _ _ h
      · rename_i h3; rw [if_neg h3]
        split at h
        · rename_i h4; rw [if_pos h4]; exact bindS_err _ _ _ _ _ h
        · rename_i h4; rw [if_neg h4]
theorem uni_le : ∀ (f : Nat) (l : List Int) (T : Tr) (s : List (Int × Int)), (uni f l T s).2.2.2.2 ≤ f := by
  intro f
  induction f using Nat.strongRecOn with
  | _ f ih =>
    intro l T s
    cases s with
    | nil => rw [uni_nil]; exact Nat.le_refl _
    | cons p s =>
      cases f with
      | zero => rw [uni_zero]; exact Nat.le_refl _
      | succ f =>
        obtain ⟨c, d⟩ := p
        have hle := uStep_le l T f (deref l c) (deref l d)
        rw [uni_succ]
        split
        · exact Nat.le_trans (ih _ (by omega) _ _ _) (by omega)
        · omega
theorem uni_err : ∀ (f : Nat) (l : List Int) (T : Tr) (s : List (Int × Int)), (uni f l T s).1 = true → (uni f l T s).2.1 = 0 := by
  intro f
  induction f using Nat.strongRecOn with
  | _ f ih =>
    intro l T s
    cases s with
    | nil => rw [uni_nil]; intro _; rfl
    | cons p s =>
      cases f with
      | zero => rw [uni_zero]; intro h; simp at h
      | succ f =>
        obtain ⟨c, d⟩ := p
        have hle := uStep_le l T f (deref l c) (deref l d)
        rw [uni_succ]
        split
        · exact ih _ (by omega) _ _ _
        · intro h; rename_i h1; exact absurd h h1
/-- Pairs one behind the other. -/
theorem uni_append : ∀ (f : Nat) (l : List Int) (T : Tr) (s t : List (Int × Int)), uni f l T (s ++ t) =
    if (uni f l T s).1 = true then uni (uni f l T s).2.2.2.2 (uni f l T s).2.2.1 (uni f l T s).2.2.2.1 t else uni f l T s := by
  intro f
  induction f using Nat.strongRecOn with
  | _ f ih =>
    intro l T s t
    cases s with
    | nil => rw [uni_nil]; simp
    | cons p s =>
      cases f with
      | zero =>
        rw [List.cons_append, uni_zero, uni_zero]; simp
      | succ f =>
        obtain ⟨c, d⟩ := p
        have hle := uStep_le l T f (deref l c) (deref l d)
        rw [List.cons_append, uni_succ, uni_succ]
        by_cases h : (uStep l T f (deref l c) (deref l d)).1 = true
        · simp only [if_pos h]
          rw [← List.append_assoc]
          exact ih _ (by omega) _ _ _ _
        · simp only [if_neg h]

/-- Two cells that come to the same, if they come to anything. -/
def Eqv (l : List Int) (c c' : Int) : Prop := ∀ d, isB l d = true → (Ch l c d ↔ Ch l c' d)
theorem Eqv.refl (l : List Int) (c : Int) : Eqv l c c := fun _ _ => Iff.rfl
theorem Eqv.symm {l : List Int} {c c' : Int} (h : Eqv l c c') : Eqv l c' c := fun d hd => (h d hd).symm
theorem Eqv.trans {l : List Int} {c c' c'' : Int} (h : Eqv l c c') (h' : Eqv l c' c'') : Eqv l c c'' := fun d hd => (h d hd).trans (h' d hd)
theorem isB_end {l : List Int} {d : Int} (h : isB l d = true) : d % 8 = 0 → l.getD (d / 8).toNat 0 = d := by
  intro h8
  unfold isB at h
  rw [if_pos h8] at h
  unfold varB at h
  simp only [Bool.and_eq_true, decide_eq_true_eq] at h
  exact h.2
theorem derefF_ch {l : List Int} : ∀ (n : Nat) (c : Int), (derefF l n c % 8 = 0 → derefF l n c / 8 < l.length → l.getD (derefF l n c / 8).toNat 0 = derefF l n c) → Ch l c (derefF l n c)
  | 0, c, h => ⟨0, .stop h⟩
  | n + 1, c, h => by
    unfold derefF at h ⊢
    by_cases h1 : c % 8 = 0 ∧ c / 8 < l.length
    · rw [if_pos h1] at h ⊢
      by_cases h2 : l.getD (c / 8).toNat 0 = c
      · rw [if_pos h2]; exact Ch.self (Or.inr h2)
      · rw [if_neg h2] at h ⊢
        exact Ch.cons h1.1 h1.2 (derefF_ch n _ h)
    · rw [if_neg h1]
      exact ⟨0, .stop fun h8 hlt => absurd ⟨h8, hlt⟩ h1⟩
theorem deref_ch {l : List Int} {c : Int} (h : isB l (deref l c) = true) : Ch l c (deref l c) := derefF_ch _ _ (fun h8 _ => isB_end h h8)
/-- In what cells come to. -/
theorem Eqv.der {l : List Int} (hl : Pos l) {c c' : Int} (hc : 0 ≤ c) (hc' : 0 ≤ c') (h : Eqv l c c') : deref l c = deref l c' ∨ (isB l (deref l c) = false ∧ isB l (deref l c') = false) := by
  by_cases h1 : isB l (deref l c) = true
  · left
    exact (deref_of hl hc' ((h _ h1).1 (deref_ch h1))).symm
  · by_cases h2 : isB l (deref l c') = true
    · left
      exact deref_of hl hc ((h _ h2).2 (deref_ch h2))
    · right; simpa using And.intro h1 h2
theorem uStep_bad {l : List Int} {T : Tr} {f : Nat} {a b : Int} (h : isB l a = false ∨ isB l b = false) : uStep l T f a b = (false, 2, l, T, f) := by unfold uStep; rw [if_pos h]
/-- A cell may stand for another that comes to the same. -/
theorem uni_eqv {l : List Int} (hl : Pos l) {c c' d d' : Int} (hc : 0 ≤ c) (hc' : 0 ≤ c') (hd : 0 ≤ d) (hd' : 0 ≤ d') (h1 : Eqv l c c') (h2 : Eqv l d d') (f : Nat) (T : Tr) (s : List (Int × Int)) : uni f l T ((c, d) :: s) = uni f l T ((c', d') :: s) := by
  cases f with
  | zero => rw [uni_zero, uni_zero]
  | succ f =>
    rw [uni_succ, uni_succ]
    rcases h1.der hl hc hc' with e1 | ⟨b1, b2⟩
    · rcases h2.der hl hd hd' with e2 | ⟨b1, b2⟩
      · rw [e1, e2]
      · rw [uStep_bad (Or.inr b1), uStep_bad (Or.inr b2)]; simp
    · rw [uStep_bad (Or.inl b1), uStep_bad (Or.inl b2)]; simp

/-- Bound: a variable, to a cell that is an end and no such variable. -/
structure Bnd1 (l l' : List Int) (p : Nat) (x : Int) : Prop where
  lt : p < l.length
  var : l.getD p 0 = (p : Int) * 8
  is : isB l x = true
  pos : 0 ≤ x
  ne : x ≠ (p : Int) * 8
  eq : l' = l.set p x
section
variable {l l' : List Int} {p : Nat} {x : Int}
theorem Bnd1.hpos (h : Bnd1 l l' p x) (hl : Pos l) : Pos l' := by rw [h.eq]; exact hl.set h.pos
theorem Bnd1.length (h : Bnd1 l l' p x) : l'.length = l.length := by rw [h.eq, List.length_set]
theorem Bnd1.other (h : Bnd1 l l' p x) {q : Nat} (hq : q ≠ p) : l'.getD q 0 = l.getD q 0 := by rw [h.eq, getD_set, if_neg (by omega)]
theorem Bnd1.this (h : Bnd1 l l' p x) : l'.getD p 0 = x := by rw [h.eq, getD_set, if_pos ⟨rfl, h.lt⟩]
theorem isB_tag {l : List Int} {x : Int} (h : isB l x = true) : x % 8 ≠ 6 := by
  intro e
  unfold isB at h
  rw [if_neg (by omega), if_neg (by omega), if_neg (by omega), if_neg (by omega), if_neg (by omega), if_neg (by omega)] at h
  cases h
theorem Bnd1.fnb (h : Bnd1 l l' p x) (v : Nat) : fnB l' v = fnB l v := by
  unfold fnB
  rw [h.length]
  by_cases hv : v = p
  · subst hv
    rw [h.this, h.var, decide_eq_false (isB_tag h.is), decide_eq_false (show ¬ ((v : Int) * 8 % 8 = 6) by omega)]
    simp
  · rw [h.other hv]
theorem Bnd1.isb (h : Bnd1 l l' p x) {d : Int} (hd0 : 0 ≤ d) (hd : d ≠ (p : Int) * 8) : isB l' d = isB l d := by
  unfold isB
  rw [h.length, h.fnb]
  by_cases h0 : d % 8 = 0
  · rw [if_pos h0, if_pos h0]
    unfold varB
    rw [h.length, h.other (by omega)]
  · rw [if_neg h0, if_neg h0]
theorem Bnd1.isB_this (h : Bnd1 l l' p x) : isB l' ((p : Int) * 8) = false := by
  unfold isB
  rw [if_pos (by omega)]
  unfold varB
  rw [show ((p : Int) * 8 / 8).toNat = p by omega, h.this, decide_eq_false h.ne]
  simp
theorem Bnd1.isB_x (h : Bnd1 l l' p x) : isB l' x = true := by rw [h.isb h.pos h.ne]; exact h.is
theorem isB_ch {l : List Int} {d : Int} (h : isB l d = true) : Ch l d d := ⟨0, .stop fun h8 _ => isB_end h h8⟩
theorem isB_var {l : List Int} {p : Nat} (hp : l.getD p 0 = (p : Int) * 8) (hlt : p < l.length) : isB l ((p : Int) * 8) = true := by
  unfold isB
  rw [if_pos (by omega)]
  unfold varB
  rw [show ((p : Int) * 8 / 8).toNat = p by omega, hp, decide_eq_true (by omega), decide_eq_true (by omega), decide_eq_true rfl]; rfl
/-- A row that ends behind a binding had an end before. -/
theorem Bnd1.back (h : Bnd1 l l' p x) (hl : Pos l) {k : Nat} {c d : Int} (hch : ChN l' k c d) : 0 ≤ c → ∃ e, Ch l c e := by
  induction hch with
  | @stop c hs =>
    intro hc
    by_cases hp : c = (p : Int) * 8
    · exact ⟨c, Ch.self (Or.inr (by rw [hp, show ((p : Int) * 8 / 8).toNat = p by omega, h.var]))⟩
    · refine ⟨c, 0, .stop fun h8 hlt => ?_⟩
      have := hs h8 (by rw [h.length]; exact hlt)
      rwa [h.other (by omega)] at this
  | @step k c d h8 hlt hne hch ih =>
    intro hc
    by_cases hp : c = (p : Int) * 8
    · exact ⟨c, Ch.self (Or.inr (by rw [hp, show ((p : Int) * 8 / 8).toNat = p by omega, h.var]))⟩
    · have e : l'.getD (c / 8).toNat 0 = l.getD (c / 8).toNat 0 := h.other (by omega)
      rw [e] at ih
      obtain ⟨e', he⟩ := ih (getD_pos hl _)
      exact ⟨e', Ch.cons h8 (by rw [h.length] at hlt; exact hlt) he⟩
theorem Bnd1.fwd (h : Bnd1 l l' p x) (hl : Pos l) {c d : Int} (hc : 0 ≤ c) (hch : Ch l c d) : Ch l' c (if d = (p : Int) * 8 then x else d) := by
  rw [h.eq]
  by_cases hd : d = (p : Int) * 8
  · rw [if_pos hd]
    subst hd
    exact hch.set_same hc hl h.var h.lt (by rw [← h.eq]; exact isB_ch h.isB_x)
  · rw [if_neg hd]
    exact hch.set_other hc hl h.var hd
theorem ch_pos {l : List Int} (hl : Pos l) {c d : Int} (h : Ch l c d) (hc : 0 ≤ c) : 0 ≤ d := by
  obtain ⟨k, h⟩ := h
  induction h with
  | stop _ => exact hc
  | step _ _ _ _ ih => exact ih (getD_pos hl _)
/-- What a cell comes to behind a binding. -/
theorem Bnd1.ch (h : Bnd1 l l' p x) (hl : Pos l) {c d' : Int} (hc : 0 ≤ c) (hd : isB l' d' = true) : Ch l' c d' ↔ ∃ d, isB l d = true ∧ Ch l c d ∧ d' = if d = (p : Int) * 8 then x else d := by
  constructor
  · intro hch
    obtain ⟨k, hk⟩ := id hch
    obtain ⟨e, he⟩ := h.back hl hk hc
    have hf := h.fwd hl hc he
    have hde := hch.det hf
    refine ⟨e, ?_, he, hde⟩
    by_cases hp : e = (p : Int) * 8
    · rw [hp]; exact isB_var h.var h.lt
    · rw [if_neg hp] at hde
      subst hde
      rwa [h.isb (ch_pos hl he hc) hp] at hd
  · rintro ⟨d, h1, h2, rfl⟩
    exact h.fwd hl hc h2
theorem Bnd1.eqv (h : Bnd1 l l' p x) (hl : Pos l) {c c' : Int} (hc : 0 ≤ c) (hc' : 0 ≤ c') (he : Eqv l c c') : Eqv l' c c' := by
  intro d hd
  rw [h.ch hl hc hd, h.ch hl hc' hd]
  constructor
  · rintro ⟨e, h1, h2, h3⟩; exact ⟨e, h1, (he e h1).1 h2, h3⟩
  · rintro ⟨e, h1, h2, h3⟩; exact ⟨e, h1, (he e h1).2 h2, h3⟩
end
/-- Some bindings. -/
inductive Binds : List Int → List Int → Prop
  | refl (l) : Binds l l
  | step {l l' l''} {p : Nat} {x : Int} (h : Bnd1 l l' p x) (hr : Binds l' l'') : Binds l l''
theorem Binds.one {l l' : List Int} {p : Nat} {x : Int} (h : Bnd1 l l' p x) : Binds l l' := .step h (.refl _)
theorem Binds.trans {l m n : List Int} (h : Binds l m) (h' : Binds m n) : Binds l n := by
  induction h with
  | refl _ => exact h'
  | step h _ ih => exact .step h (ih h')
theorem Binds.hpos {l m : List Int} (h : Binds l m) : Pos l → Pos m := by
  induction h with
  | refl _ => exact id
  | step h _ ih => exact fun hl => ih (h.hpos hl)
theorem Binds.length {l m : List Int} (h : Binds l m) : m.length = l.length := by
  induction h with
  | refl _ => rfl
  | step h _ ih => rw [ih, h.length]
/-- The cells of before come to what those of now come to. -/
theorem Binds.old {l m : List Int} (h : Binds l m) : Pos l → ∀ q, q < l.length → Eqv m (m.getD q 0) (l.getD q 0) ∧ ∀ c c', 0 ≤ c → 0 ≤ c' → Eqv l c c' → Eqv m c c' := by
  induction h with
  | refl _ => exact fun _ q _ => ⟨Eqv.refl _ _, fun _ _ _ _ h => h⟩
  | @step l l' l'' p x h hr ih =>
    intro hl q hq
    have hl' := h.hpos hl
    obtain ⟨i1, i2⟩ := ih hl' q (by rw [h.length]; exact hq)
    refine ⟨i1.trans (i2 _ _ (getD_pos hl' _) (getD_pos hl _) ?_), fun c c' hc hc' he => i2 c c' hc hc' (h.eqv hl hc hc' he)⟩
    by_cases hp : q = p
    · subst hp
      rw [h.this, h.var]
      intro d hd
      constructor
      · intro hx
        exact Ch.cons (by omega) (by rw [h.length]; omega) (by rw [show ((q : Int) * 8 / 8).toNat = q by omega, h.this]; exact hx)
      · rintro ⟨k, hk⟩
        cases hk with
        | stop hs =>
          have := hs (by omega) (by rw [h.length]; omega)
          rw [show ((q : Int) * 8 / 8).toNat = q by omega, h.this] at this
          exact absurd this h.ne
        | step h8 hlt hne hk =>
          rw [show ((q : Int) * 8 / 8).toNat = q by omega, h.this] at hk
          exact ⟨_, hk⟩
    · rw [h.other hp]; exact Eqv.refl _ _
theorem varB_iff {l : List Int} {c : Int} (hc : 0 ≤ c) : varB l c = true ↔ ∃ p : Nat, c = (p : Int) * 8 ∧ p < l.length ∧ l.getD p 0 = (p : Int) * 8 := by
  unfold varB
  simp only [Bool.and_eq_true, decide_eq_true_eq]
  constructor
  · rintro ⟨⟨h1, h2⟩, h3⟩
    exact ⟨(c / 8).toNat, by omega, by omega, by rw [h3]; omega⟩
  · rintro ⟨p, rfl, h2, h3⟩
    rw [show ((p : Int) * 8 / 8).toNat = p by omega]
    exact ⟨⟨by omega, by omega⟩, h3⟩
theorem bind_bnd {l : List Int} {a b : Int} (ha0 : 0 ≤ a) (hb0 : 0 ≤ b) (ha : varB l a = true) (hb : isB l b = true) (hne : a ≠ b) : ∃ p x, Bnd1 l (bindL l a b) p x ∧ (p : Int) * 8 = (bindP l a b).1 ∧ x = (bindP l a b).2 := by
  obtain ⟨p, rfl, hp1, hp2⟩ := (varB_iff ha0).1 ha
  unfold bindL
  rw [if_neg hne]
  unfold bindP
  by_cases hv : (varB l b && decide ((p : Int) * 8 / 8 < b / 8)) = true
  · rw [if_pos hv]
    rw [Bool.and_eq_true, decide_eq_true_eq] at hv
    obtain ⟨q, rfl, hq1, hq2⟩ := (varB_iff hb0).1 hv.1
    exact ⟨q, (p : Int) * 8, ⟨hq1, hq2, isB_var hp2 hp1, by omega, hne, by simp only []; rw [show ((q : Int) * 8 / 8).toNat = q by omega]⟩, rfl, rfl⟩
  · rw [if_neg hv]
    exact ⟨p, b, ⟨hp1, hp2, hb, hb0, Ne.symm hne, by simp only []; rw [show ((p : Int) * 8 / 8).toNat = p by omega]⟩, rfl, rfl⟩
theorem bind_binds {l : List Int} {a b : Int} (ha0 : 0 ≤ a) (hb0 : 0 ≤ b) (ha : varB l a = true) (hb : isB l b = true) : Binds l (bindL l a b) := by
  by_cases hne : a = b
  · unfold bindL; rw [if_pos hne]; exact .refl _
  · obtain ⟨p, x, h, _⟩ := bind_bnd ha0 hb0 ha hb hne
    exact .one h
theorem bindS_binds {l : List Int} {T : Tr} {x c : Int} {r : Bool × Int × Nat} (hx : 0 ≤ x) (hc : 0 ≤ c) (h1 : varB l x = true) (h2 : isB l c = true) : Binds l (bindS l T x c r).2.2.1 := by
  unfold bindS
  split
  · exact .refl _
  · exact bind_binds hx hc h1 h2
theorem uStep_binds {l : List Int} {T : Tr} {f : Nat} {a b : Int} (ha : 0 ≤ a) (hb : 0 ≤ b) : Binds l (uStep l T f a b).2.2.1 := by
  unfold uStep
  split
  · exact .refl _
  · rename_i h0
    have h1 : isB l a = true := by
      cases h : isB l a
      · exact absurd (Or.inl h) h0
      · rfl
    have h2 : isB l b = true := by
      cases h : isB l b
      · exact absurd (Or.inr h) h0
      · rfl
    split
    · rename_i h3; exact bind_binds ha hb h3.1 h2
    · split
      · rename_i h3; exact bindS_binds ha hb h3 h2
      · split
        · rename_i h3; exact bindS_binds hb ha h3 h1
        · exact .refl _
theorem deref_pos {l : List Int} (hl : Pos l) : ∀ (n : Nat) {c : Int}, 0 ≤ c → 0 ≤ derefF l n c
  | 0, _, hc => hc
  | n + 1, c, hc => by
    unfold derefF
    split
    · split
      · exact hc
      · exact deref_pos hl n (getD_pos hl _)
    · exact hc
theorem argsL_pos {l : List Int} (hl : Pos l) (d : Int) : ∀ x ∈ argsL l d, 0 ≤ x := fun x hx => hl x (List.mem_of_mem_drop (List.mem_of_mem_take hx))
/-- All pairs' cells are none below 0. -/
def PosP (s : List (Int × Int)) : Prop := ∀ p ∈ s, 0 ≤ p.1 ∧ 0 ≤ p.2
theorem uPush_pos {l : List Int} (hl : Pos l) (a b : Int) : PosP (uPush l a b) := by
  unfold uPush
  split
  · intro p hp
    have := List.of_mem_zip hp
    exact ⟨argsL_pos hl _ _ this.1, argsL_pos hl _ _ this.2⟩
  · intro p hp; simp at hp
theorem uni_binds : ∀ (f : Nat) (l : List Int) (T : Tr) (s : List (Int × Int)), Pos l → PosP s → Binds l (uni f l T s).2.2.1 := by
  intro f
  induction f using Nat.strongRecOn with
  | _ f ih =>
    intro l T s hl hs
    cases s with
    | nil => rw [uni_nil]; exact .refl _
    | cons p s =>
      cases f with
      | zero => rw [uni_zero]; exact .refl _
      | succ f =>
        obtain ⟨c, d⟩ := p
        have hle := uStep_le l T f (deref l c) (deref l d)
        have hcd := hs (c, d) (by simp)
        have hst := uStep_binds (l := l) (T := T) (f := f) (deref_pos hl l.length hcd.1) (deref_pos hl l.length hcd.2)
        rw [uni_succ]
        split
        · refine hst.trans (ih _ (by have := hle; omega) _ _ _ (hst.hpos hl) ?_)
          intro p hp
          rcases List.mem_append.1 hp with hp | hp
          · exact uPush_pos hl _ _ p hp
          · exact hs p (by simp [hp])
        · exact hst
end Go.Proofs.Ytlmcfclonncgbaa
/- The visitor (package unify): visits, words, whether a cell stands for something. -/
namespace Go.Proofs.Ytlmcfclonncgbaa
open Go.RowKit
set_option linter.unusedVariables false
set_option linter.unusedSimpArgs false

theorem quietG {P : Program} {f : FuncId} {args : Array Value} {X : World} {F : Nat → World} {v : Value} (h : Calls P f args X (Quiet X v)) (hx : ∀ n, ∃ m, X.drewN n = F m) :
    Calls P f args X (fun e w' => e = .returned v ∧ ∃ n, w' = F n) := by
  refine h.mono ?_
  rintro e w' ⟨rfl, n, rfl⟩
  exact ⟨rfl, hx n⟩
/-- The visitor's block. -/
def VB (own : Nat → Nat) (idv : Nat) (w : World) (v ph : Nat) (pt : Value) (n : Nat) : Prop := Blk own idv w v [.pointer (some ⟨ph, 0, none⟩), pt, .int .i64 n] 162
theorem visit_ok (own : Nat → Nat) (idv : Nat) (w : World) (v ph n : Nat) (pt : Value) (hb : VB own idv w v ph pt n) (hn : n < 100000) :
    Calls Try.prog 141 #[.pointer (some ⟨v, 0, none⟩)] w (Does own [idv] w fun own' e w' => e = .returned (.int .i64 0) ∧ VB own' idv w' v ph pt (n + 1)) := by
  have c2 := Blk.cell hb 2 rfl
  have f2 := Blk.free hb 2
  have hq : ((n : Int) == 100000) = false := by simp; omega
  have hq2 : ((n : Int) != 100000) = true := by simp; omega
  have hwn : IntKind.i64.wrap ((n : Int) + 1) = (n : Int) + 1 := by rw [IntKind.wrap_i64]; omega
  have hx : Ext own own [idv] w (w.setCell ⟨v, 2, none⟩ (.int .i64 ((n : Int) + 1))) := (Ext.refl own [idv] w).setCell _ _ (fun _ => by show own v ∈ _; rw [hb.2]; simp)
  have hb2 : VB own idv (w.setCell ⟨v, 2, none⟩ (.int .i64 ((n : Int) + 1))) v ph pt (n + 1) := by
    unfold VB
    rw [show ((n + 1 : Nat) : Int) = (n : Int) + 1 by push_cast; rfl]
    exact Blk.set hb 2 _
  clear hb
  go_enter Try.func141, Try.ntmps141
  go_wp2_with fail
  go_ret
  exact ⟨own, hx, rfl, hb2⟩
theorem visit_long (own : Nat → Nat) (idv : Nat) (w : World) (v ph : Nat) (pt : Value) (hb : VB own idv w v ph pt 100000) :
    Calls Try.prog 141 #[.pointer (some ⟨v, 0, none⟩)] w (Quiet w (.int .i64 3)) := by
  have c2 := Blk.cell hb 2 rfl
  clear hb
  go_enter Try.func141, Try.ntmps141
  go_wp2_with fail
  go_ret
  exact ⟨rfl, 0, rfl⟩
/-- So many cells from a place on. -/
def thereB (l : List Int) (c n : Int) : Bool := decide (c / 8 + n ≤ l.length)
theorem there_any (own : Nat → Nat) (idv idh : Nat) (w : World) (v ph n : Nat) (pt : Value) (most c : Int) (l : List Int) (m : Int) (hb : VB own idv w v ph pt n) (hh : HP own idh w ph most l) (hc0 : 0 ≤ c) (hc1 : c < 18446744073709551616) (hm1 : 1 ≤ m) (hm : m ≤ 100) :
    Calls Try.prog 153 #[.pointer (some ⟨v, 0, none⟩), .int .u64 c, .int .i64 m] w (Quiet w (.bool (thereB l c m))) := by
  have hll := hh.len
  have c0 := Blk.cell hb 0 rfl
  have hlen := fun n => len_any own idh ph most l (w.drewN n) (hh.dr n)
  have HLN := Lib.hid hlen
  have hwl : IntKind.u64.wrap (l.length : Int) = l.length := by rw [wrap_u64]; omega
  have hwm : IntKind.u64.wrap m = m := by rw [wrap_u64]; omega
  obtain ⟨V, hV⟩ : ∃ V, c / 8 = V := ⟨_, rfl⟩
  have hval : ∀ w, Calls Try.prog 111 #[.int .u64 c] w fun e w' => e = .returned (.int .u64 V) ∧ w' = w := fun w => by rw [← hV]; exact value_any c w
  have HVA := Lib.hid hval
  unfold thereB
  rw [hV]
  have hV0 : 0 ≤ V := by omega
  clear hb hh hlen hval
  by_cases h1 : V < l.length
  · have hws : IntKind.u64.wrap ((l.length : Int) - V) = (l.length : Int) - V := by rw [wrap_u64]; omega
    have hd1 : decide (V < (l.length : Int)) = true := decide_eq_true h1
    have hd2 : decide (m ≤ (l.length : Int) - V) = decide (V + m ≤ (l.length : Int)) := by rw [decide_eq_decide]; omega
    clear hV hc0 hc1
    go_enter Try.func153, Try.ntmps153
    go_wp2_with (first | (go_at_call 31; refine Calls.mono (HLN.out 0) ?_; rintro e w' ⟨rfl, n5, rfl⟩) | (go_at_call 111; refine (HVA.out _).mono ?_; rintro e w' ⟨rfl, hw'⟩; rw [hw']; clear hw'))
    go_ret
    exact ⟨rfl, _, rfl⟩
  · have hd1 : decide (V < (l.length : Int)) = false := decide_eq_false h1
    have hd2 : decide (V + m ≤ (l.length : Int)) = false := decide_eq_false (by omega)
    rw [hd2]
    clear hV hc0 hc1
    go_enter Try.func153, Try.ntmps153
    go_wp2_with (first | (go_at_call 31; refine Calls.mono (HLN.out 0) ?_; rintro e w' ⟨rfl, n5, rfl⟩) | (go_at_call 111; refine (HVA.out _).mono ?_; rintro e w' ⟨rfl, hw'⟩; rw [hw']; clear hw'))
    go_ret
    exact ⟨rfl, _, rfl⟩
/-- The word at a cell's place. -/
theorem word_any (own : Nat → Nat) (idv idh : Nat) (w : World) (v ph n : Nat) (pt : Value) (most c : Int) (l : List Int) (i : Int) (hb : VB own idv w v ph pt n) (hh : HP own idh w ph most l) (hc0 : 0 ≤ c) (hc1 : c < 18446744073709551616) (hi0 : 0 ≤ i) (hi : i ≤ 100) :
    Calls Try.prog 147 #[.pointer (some ⟨v, 0, none⟩), .int .u64 c, .int .i64 i] w (Quiet w (.int .u64 (getV l (c / 8 + i)))) := by
  have c0 := Blk.cell hb 0 rfl
  obtain ⟨V, hV⟩ : ∃ V, c / 8 = V := ⟨_, rfl⟩
  have hval : ∀ w, Calls Try.prog 111 #[.int .u64 c] w fun e w' => e = .returned (.int .u64 V) ∧ w' = w := fun w => by rw [← hV]; exact value_any c w
  have HVA := Lib.hid hval
  have hwV : IntKind.i64.wrap V = V := by rw [IntKind.wrap_i64]; omega
  have hwVi : IntKind.i64.wrap (V + i) = V + i := by rw [IntKind.wrap_i64]; omega
  have hget := fun n => get_any own idh ph most (V + i) l (w.drewN n) (hh.dr n)
  have HG := Lib.hid hget
  rw [hV]
  clear hb hh hval hget hV hc0 hc1
  go_enter Try.func147, Try.ntmps147
  go_wp2_with fail
  go_quiet ((first | (go_at_call 111; first | exact Calls.quiet_of_same (HVA.out _) | exact quiet_gen (HVA.out _) (by first | exact ⟨_, rfl⟩ | exact ⟨0, rfl⟩)) | (go_at_call 36; first | exact Calls.quiet_of (HG.out _) | exact quietG (HG.out _) (fun n => by first | exact ⟨n, rfl⟩ | exact ⟨_, World.drewN_drewN _ _ _⟩ | exact ⟨_, (World.drewN_drewN _ _ _).trans (congrArg (World.drewN _) (Nat.add_assoc _ _ _))⟩))))
  go_wp2_with fail
  go_ret
  exact ⟨rfl, _, rfl⟩

end Go.Proofs.Ytlmcfclonncgbaa
/- The visitor (package unify): functors, variables, whether a cell stands for something, whether two are alike. -/
namespace Go.Proofs.Ytlmcfclonncgbaa
open Go.RowKit
set_option linter.unusedVariables false
set_option linter.unusedSimpArgs false

theorem VB.dr {own : Nat → Nat} {idv : Nat} {w : World} {v ph n : Nat} {pt : Value} (h : VB own idv w v ph pt n) (m : Nat) : VB own idv (w.drewN m) v ph pt n := h
theorem getV_getD {l : List Int} {i : Int} (h : 0 ≤ i) : getV l i = l.getD i.toNat 0 := by
  unfold getV
  by_cases hi : i < l.length
  · rw [inB_true h hi]; rfl
  · rw [inB_false (by omega)]
    simp [List.getD, List.getElem?_eq_none (show l.length ≤ i.toNat by omega)]
def functorV (l : List Int) (c : Int) : Value := .tuple #[.int .u64 (l.getD (c / 8).toNat 0), .bool (fnB l (c / 8).toNat)]
theorem functor_no (own : Nat → Nat) (idv idh : Nat) (w : World) (v ph n : Nat) (pt : Value) (most c : Int) (l : List Int)(hb : VB own idv w v ph pt n) (hh : HP own idh w ph most l) (hc0 : 0 ≤ c) (hc1 : c < 18446744073709551616) (hno : ¬ c / 8 < l.length) :
    Calls Try.prog 145 #[.pointer (some ⟨v, 0, none⟩), .int .u64 c] w (Quiet w (functorV l c)) := by
  have hth := fun n1 => there_any own idv idh (w.drewN n1) v ph n pt most c l 1 (hb.dr n1) (hh.dr n1) hc0 hc1 (by decide) (by decide)
  have ht0 : thereB l c 1 = false := by unfold thereB; exact decide_eq_false (by omega)
  have hf0 : fnB l (c / 8).toNat = false := by unfold fnB; rw [show decide ((c / 8).toNat < l.length) = false from decide_eq_false (by omega)]; rfl
  unfold functorV
  rw [ht0] at hth
  rw [hf0, show l.getD (c / 8).toNat 0 = 0 by simp [List.getD, List.getElem?_eq_none (show l.length ≤ (c / 8).toNat by omega)]]
  have HTH := Lib.hid hth
  clear hth hb hh ht0 hf0
  go_enter Try.func145, Try.ntmps145
  go_wp2_with (go_at_call 153; refine Calls.mono (HTH.out 0) ?_; rintro e w' ⟨rfl, n5, rfl⟩)
  go_ret2
  exact ⟨rfl, _, rfl⟩
set_option maxHeartbeats 1000000 in
theorem functor_in (own : Nat → Nat) (idv idh : Nat) (w : World) (v ph n : Nat) (pt : Value) (most c : Int) (l : List Int)(hb : VB own idv w v ph pt n) (hh : HP own idh w ph most l) (hc0 : 0 ≤ c) (hc1 : c < 18446744073709551616) (hin : c / 8 < l.length) (hl0 : ∀ x ∈ l, 0 ≤ x ∧ x < 18446744073709551616) :
    Calls Try.prog 145 #[.pointer (some ⟨v, 0, none⟩), .int .u64 c] w (Quiet w (functorV l c)) := by
  have hll := hh.len
  have hth := fun n1 => there_any own idv idh (w.drewN n1) v ph n pt most c l 1 (hb.dr n1) (hh.dr n1) hc0 hc1 (by decide) (by decide)
  have ht0 : thereB l c 1 = true := by unfold thereB; exact decide_eq_true (by omega)
  rw [ht0] at hth
  have hth2 := fun m (h1 : 1 ≤ m) (h2 : m ≤ 100) n1 => there_any own idv idh (w.drewN n1) v ph n pt most c l m (hb.dr n1) (hh.dr n1) hc0 hc1 h1 h2
  have c0 := Blk.cell hb 0 rfl
  obtain ⟨V, hV⟩ : ∃ V : Nat, c / 8 = V := ⟨(c / 8).toNat, by omega⟩
  have hval : ∀ w, Calls Try.prog 111 #[.int .u64 c] w fun e w' => e = .returned (.int .u64 (V : Int)) ∧ w' = w := fun w => by rw [← hV]; exact value_any c w
  have HVA := Lib.hid hval
  have hwV : IntKind.i64.wrap (V : Int) = V := by rw [IntKind.wrap_i64]; omega
  have hget := fun n1 => get_any own idh ph most (V : Int) l (w.drewN n1) (hh.dr n1)
  have hiB : inB l (V : Int) = true := inB_true (by omega) (by omega)
  rw [getV_getD (by omega), hiB] at hget
  unfold functorV thereB at *
  rw [hV] at hth2 hin ⊢
  rw [show ((V : Int)).toNat = V by omega] at hget ⊢
  obtain ⟨y, hy⟩ : ∃ y, l.getD V 0 = y := ⟨_, rfl⟩
  have hyr : 0 ≤ y ∧ y < 18446744073709551616 := by
    rw [← hy]; exact hl0 _ (by simp only [List.getD, List.getElem?_eq_getElem (show V < l.length by omega), Option.getD_some]; exact List.getElem_mem _)
  rw [hy] at hget
  unfold fnB
  rw [hy]
  have hVl : decide (V < l.length) = true := decide_eq_true (by omega)
  rw [hVl]
  have HTH := Lib.hid hth
  have HG := Lib.hid hget
  have HTH2 := Lib.hid hth2
  have hpa := fun w => parts_any y w hyr.1 hyr.2
  clear hth hget hb hh ht0 hval hth2 hiB hc0 hc1 hl0 hVl
  by_cases h6 : y % 8 = 6
  · have q6 : (y % 8 == 6) = true := by simpa using h6
    unfold partsA partsN at hpa
    rw [if_pos h6, if_pos h6] at hpa
    obtain ⟨N, hN⟩ : ∃ N : Nat, y / 8 % 256 = N := ⟨(y / 8 % 256).toNat, by omega⟩
    rw [hN] at hpa ⊢
    have HPA := Lib.hid hpa
    clear hpa
    rw [decide_eq_true h6, show ((N : Int)).toNat = N by omega]
    by_cases n1 : 1 ≤ N
    · by_cases n2 : N ≤ 20
      · have q1 : decide ((1 : Int) ≤ (N : Int)) = true := decide_eq_true (by omega)
        have q2 : decide ((N : Int) ≤ 20) = true := decide_eq_true (by omega)
        have hw1 : IntKind.i64.wrap (1 + (N : Int)) = 1 + (N : Int) := by rw [IntKind.wrap_i64]; omega
        have h3 := HTH2.out (1 + (N : Int)) (by omega) (by omega)
        have e3 : decide ((V : Int) + (1 + (N : Int)) ≤ (l.length : Int)) = decide (V + N < l.length) := by rw [decide_eq_decide]; omega
        rw [e3] at h3
        have H3 := Lib.hid h3
        rw [q1, q2, Bool.and_self, Bool.and_self, Bool.and_self, Bool.true_and]
        clear h3 e3 hN h6 hyr hy n1 n2 HTH2
        go_enter Try.func145, Try.ntmps145
        go_wp2_with (go_at_call 153; refine Calls.mono (HTH.out 0) ?_; rintro e w' ⟨rfl, n5, rfl⟩)
        go_quiet ((first | (go_at_call 111; first | exact Calls.quiet_of_same (HVA.out _) | exact quiet_gen (HVA.out _) (by first | exact ⟨_, rfl⟩ | exact ⟨0, rfl⟩)) | (go_at_call 36; first | exact Calls.quiet_of (HG.out _) | exact quietG (HG.out _) (fun n => by first | exact ⟨n, rfl⟩ | exact ⟨_, World.drewN_drewN _ _ _⟩ | exact ⟨_, (World.drewN_drewN _ _ _).trans (congrArg (World.drewN _) (Nat.add_assoc _ _ _))⟩))))
        go_wp2_with (first | (go_at_call 126; refine (tag_any y _).mono ?_; rintro e w' ⟨rfl, hw'⟩; rw [hw']; clear hw') | (go_at_call 146; refine (HPA.out _).mono ?_; rintro e w' ⟨rfl, hw'⟩; rw [hw']; clear hw') | (go_at_call 153; refine Calls.mono (H3.out _) ?_; rintro e w' ⟨rfl, n6, rfl⟩))
        go_ret2
        exact ⟨rfl, _, rfl⟩
      · have q1 : decide ((1 : Int) ≤ (N : Int)) = true := decide_eq_true (by omega)
        have q2 : decide ((N : Int) ≤ 20) = false := decide_eq_false (by omega)
        rw [q1, q2, Bool.and_false, Bool.false_and]
        clear hN h6 hyr hy n1 n2 HTH2
        go_enter Try.func145, Try.ntmps145
        go_wp2_with (go_at_call 153; refine Calls.mono (HTH.out 0) ?_; rintro e w' ⟨rfl, n5, rfl⟩)
        go_quiet ((first | (go_at_call 111; first | exact Calls.quiet_of_same (HVA.out _) | exact quiet_gen (HVA.out _) (by first | exact ⟨_, rfl⟩ | exact ⟨0, rfl⟩)) | (go_at_call 36; first | exact Calls.quiet_of (HG.out _) | exact quietG (HG.out _) (fun n => by first | exact ⟨n, rfl⟩ | exact ⟨_, World.drewN_drewN _ _ _⟩ | exact ⟨_, (World.drewN_drewN _ _ _).trans (congrArg (World.drewN _) (Nat.add_assoc _ _ _))⟩))))
        go_wp2_with (first | (go_at_call 126; refine (tag_any y _).mono ?_; rintro e w' ⟨rfl, hw'⟩; rw [hw']; clear hw') | (go_at_call 146; refine (HPA.out _).mono ?_; rintro e w' ⟨rfl, hw'⟩; rw [hw']; clear hw'))
        go_ret2
        exact ⟨rfl, _, rfl⟩
    · have q1 : decide ((1 : Int) ≤ (N : Int)) = false := decide_eq_false (by omega)
      rw [q1, Bool.and_false, Bool.false_and, Bool.false_and]
      clear hN h6 hyr hy n1 HTH2
      go_enter Try.func145, Try.ntmps145
      go_wp2_with (go_at_call 153; refine Calls.mono (HTH.out 0) ?_; rintro e w' ⟨rfl, n5, rfl⟩)
      go_quiet ((first | (go_at_call 111; first | exact Calls.quiet_of_same (HVA.out _) | exact quiet_gen (HVA.out _) (by first | exact ⟨_, rfl⟩ | exact ⟨0, rfl⟩)) | (go_at_call 36; first | exact Calls.quiet_of (HG.out _) | exact quietG (HG.out _) (fun n => by first | exact ⟨n, rfl⟩ | exact ⟨_, World.drewN_drewN _ _ _⟩ | exact ⟨_, (World.drewN_drewN _ _ _).trans (congrArg (World.drewN _) (Nat.add_assoc _ _ _))⟩))))
      go_wp2_with (first | (go_at_call 126; refine (tag_any y _).mono ?_; rintro e w' ⟨rfl, hw'⟩; rw [hw']; clear hw') | (go_at_call 146; refine (HPA.out _).mono ?_; rintro e w' ⟨rfl, hw'⟩; rw [hw']; clear hw'))
      go_ret2
      exact ⟨rfl, _, rfl⟩
  · have q6 : (y % 8 == 6) = false := by simpa using h6
    rw [decide_eq_false h6, Bool.and_false, Bool.false_and, Bool.false_and, Bool.false_and]
    have HPA := Lib.hid hpa
    clear hpa h6 hyr hy HTH2
    go_enter Try.func145, Try.ntmps145
    go_wp2_with (go_at_call 153; refine Calls.mono (HTH.out 0) ?_; rintro e w' ⟨rfl, n5, rfl⟩)
    go_quiet ((first | (go_at_call 111; first | exact Calls.quiet_of_same (HVA.out _) | exact quiet_gen (HVA.out _) (by first | exact ⟨_, rfl⟩ | exact ⟨0, rfl⟩)) | (go_at_call 36; first | exact Calls.quiet_of (HG.out _) | exact quietG (HG.out _) (fun n => by first | exact ⟨n, rfl⟩ | exact ⟨_, World.drewN_drewN _ _ _⟩ | exact ⟨_, (World.drewN_drewN _ _ _).trans (congrArg (World.drewN _) (Nat.add_assoc _ _ _))⟩))))
    go_wp2_with (first | (go_at_call 126; refine (tag_any y _).mono ?_; rintro e w' ⟨rfl, hw'⟩; rw [hw']; clear hw') | (go_at_call 146; refine (HPA.out _).mono ?_; rintro e w' ⟨rfl, hw'⟩; rw [hw']; clear hw'))
    go_ret2
    exact ⟨rfl, _, rfl⟩
theorem vfunctor_any (own : Nat → Nat) (idv idh : Nat) (w : World) (v ph n : Nat) (pt : Value) (most c : Int) (l : List Int)(hb : VB own idv w v ph pt n) (hh : HP own idh w ph most l) (hc0 : 0 ≤ c) (hc1 : c < 18446744073709551616) (hl0 : ∀ x ∈ l, 0 ≤ x ∧ x < 18446744073709551616) :
    Calls Try.prog 145 #[.pointer (some ⟨v, 0, none⟩), .int .u64 c] w (Quiet w (functorV l c)) := by
  by_cases h : c / 8 < l.length
  · exact functor_in own idv idh w v ph n pt most c l hb hh hc0 hc1 h hl0
  · exact functor_no own idv idh w v ph n pt most c l hb hh hc0 hc1 h
theorem vvariable_any (own : Nat → Nat) (idv idh : Nat) (w : World) (v ph n : Nat) (pt : Value) (most c : Int) (l : List Int)(hb : VB own idv w v ph pt n) (hh : HP own idh w ph most l) (hc0 : 0 ≤ c) (hc1 : c < 18446744073709551616) :
    Calls Try.prog 110 #[.pointer (some ⟨v, 0, none⟩), .int .u64 c] w (Quiet w (.bool (varB l c))) := by
  have hll := hh.len
  have hth := fun n1 => there_any own idv idh (w.drewN n1) v ph n pt most c l 1 (hb.dr n1) (hh.dr n1) hc0 hc1 (by decide) (by decide)
  have hwd := fun n1 => word_any own idv idh (w.drewN n1) v ph n pt most c l 0 (hb.dr n1) (hh.dr n1) hc0 hc1 (by decide) (by decide)
  rw [getV_getD (by omega), Int.add_zero] at hwd
  unfold varB
  clear hb hh
  by_cases h0 : c % 8 = 0
  · have q0 : (c % 8 == 0) = true := by simpa using h0
    rw [decide_eq_true h0]
    by_cases h1 : c / 8 < l.length
    · have ht : thereB l c 1 = true := by unfold thereB; exact decide_eq_true (by omega)
      rw [ht] at hth
      rw [decide_eq_true h1]
      obtain ⟨y, hy⟩ : ∃ y, l.getD (c / 8).toNat 0 = y := ⟨_, rfl⟩
      rw [hy] at hwd ⊢
      have HTH := Lib.hid hth
      have HWD := Lib.hid hwd
      have e : (true && true && decide (y = c)) = (y == c) := by simp [BEq.beq]
      rw [e]
      clear hth hwd hy h0 h1 ht e
      go_enter Try.func110, Try.ntmps110
      go_wp2_with (first | (go_at_call 126; refine (tag_any c _).mono ?_; rintro e w' ⟨rfl, hw'⟩; rw [hw']; clear hw') | (go_at_call 153; refine Calls.mono (HTH.out 0) ?_; rintro e w' ⟨rfl, n5, rfl⟩) | (go_at_call 147; refine Calls.mono (HWD.out _) ?_; rintro e w' ⟨rfl, n6, rfl⟩))
      go_ret
      exact ⟨rfl, _, rfl⟩
    · have ht : thereB l c 1 = false := by unfold thereB; exact decide_eq_false (by omega)
      rw [ht] at hth
      rw [decide_eq_false h1, Bool.and_false, Bool.false_and]
      have HTH := Lib.hid hth
      clear hth hwd h0 h1 ht
      go_enter Try.func110, Try.ntmps110
      go_wp2_with (first | (go_at_call 126; refine (tag_any c _).mono ?_; rintro e w' ⟨rfl, hw'⟩; rw [hw']; clear hw') | (go_at_call 153; refine Calls.mono (HTH.out 0) ?_; rintro e w' ⟨rfl, n5, rfl⟩))
      go_ret
      exact ⟨rfl, _, rfl⟩
  · have q0 : (c % 8 == 0) = false := by simpa using h0
    rw [decide_eq_false h0, Bool.false_and, Bool.false_and]
    clear hth hwd h0
    go_enter Try.func110, Try.ntmps110
    go_wp2_with (go_at_call 126; refine (tag_any c _).mono ?_; rintro e w' ⟨rfl, hw'⟩; rw [hw']; clear hw')
    go_ret
    exact ⟨rfl, 0, rfl⟩
set_option maxHeartbeats 1000000 in
set_option maxRecDepth 100000 in
theorem vis_any (own : Nat → Nat) (idv idh : Nat) (w : World) (v ph n : Nat) (pt : Value) (most c : Int) (l : List Int)(hb : VB own idv w v ph pt n) (hh : HP own idh w ph most l) (hc0 : 0 ≤ c) (hc1 : c < 18446744073709551616) (hl0 : ∀ x ∈ l, 0 ≤ x ∧ x < 18446744073709551616) :
    Calls Try.prog 142 #[.pointer (some ⟨v, 0, none⟩), .int .u64 c] w (Quiet w (.bool (isB l c))) := by
  have hll := hh.len
  have hth := fun m (h1 : 1 ≤ m) (h2 : m ≤ 100) => there_any own idv idh w v ph n pt most c l m hb hh hc0 hc1 h1 h2
  have hth1 := hth 1 (by decide) (by decide)
  have hth2 := hth 2 (by decide) (by decide)
  have hva := vvariable_any own idv idh w v ph n pt most c l hb hh hc0 hc1
  have hfu := vfunctor_any own idv idh w v ph n pt most c l hb hh hc0 hc1 hl0
  have e1 : thereB l c 1 = decide (c / 8 < l.length) := by unfold thereB; rw [decide_eq_decide]; omega
  have e2 : thereB l c 2 = decide (c / 8 + 1 < l.length) := by unfold thereB; rw [decide_eq_decide]; omega
  rw [e1] at hth1
  rw [e2] at hth2
  unfold functorV at hfu
  unfold isB
  obtain ⟨t, ht⟩ : ∃ t, c % 8 = t := ⟨_, rfl⟩
  have htr : 0 ≤ t ∧ t < 8 := by omega
  have hta : ∀ w, Calls Try.prog 126 #[.int .u64 c] w fun e w' => e = .returned (.int .i64 t) ∧ w' = w := fun w => by rw [← ht]; exact tag_any c w
  rw [ht]
  have HT := Lib.hid hta
  have H1 := Lib.hid hth1
  have H2 := Lib.hid hth2
  have HV := Lib.hid hva
  have HF := Lib.hid hfu
  clear hth hth1 hth2 hva hfu e1 e2 hb hh ht hta hl0
  obtain h | h | h | h | h | h | h | h : t = 0 ∨ t = 1 ∨ t = 2 ∨ t = 3 ∨ t = 4 ∨ t = 5 ∨ t = 6 ∨ t = 7 := by omega
  all_goals subst h
  · rw [if_pos rfl]
    go_enter Try.func142, Try.ntmps142
    go_wp2_with (first | (go_at_call 126; refine (HT.out _).mono ?_; rintro e w' ⟨rfl, hw'⟩; rw [hw']; clear hw') | (go_at_call 110; refine Calls.mono HV.out ?_; rintro e w' ⟨rfl, n5, rfl⟩))
    go_ret
    first | exact ⟨rfl, _, rfl⟩ | exact ⟨rfl, 0, rfl⟩
  · rw [if_neg (show ¬ ((1 : Int) = 0) by decide), if_pos rfl]
    go_enter Try.func142, Try.ntmps142
    go_wp2_with (first | (go_at_call 126; refine (HT.out _).mono ?_; rintro e w' ⟨rfl, hw'⟩; rw [hw']; clear hw') | (go_at_call 145; refine Calls.mono HF.out ?_; rintro e w' ⟨rfl, n5, rfl⟩))
    go_ret
    first | exact ⟨rfl, _, rfl⟩ | exact ⟨rfl, 0, rfl⟩
  · rw [if_neg (show ¬ ((2 : Int) = 0) by decide), if_neg (show ¬ ((2 : Int) = 1) by decide), if_pos rfl]
    go_enter Try.func142, Try.ntmps142
    go_wp2_with (go_at_call 126; refine (HT.out _).mono ?_; rintro e w' ⟨rfl, hw'⟩; rw [hw']; clear hw')
    go_ret
    first | exact ⟨rfl, _, rfl⟩ | exact ⟨rfl, 0, rfl⟩
  · rw [if_neg (show ¬ ((3 : Int) = 0) by decide), if_neg (show ¬ ((3 : Int) = 1) by decide), if_neg (show ¬ ((3 : Int) = 2) by decide), if_pos rfl]
    go_enter Try.func142, Try.ntmps142
    go_wp2_with (go_at_call 126; refine (HT.out _).mono ?_; rintro e w' ⟨rfl, hw'⟩; rw [hw']; clear hw')
    go_ret
    first | exact ⟨rfl, _, rfl⟩ | exact ⟨rfl, 0, rfl⟩
  · rw [if_neg (show ¬ ((4 : Int) = 0) by decide), if_neg (show ¬ ((4 : Int) = 1) by decide), if_neg (show ¬ ((4 : Int) = 2) by decide), if_neg (show ¬ ((4 : Int) = 3) by decide), if_pos rfl]
    go_enter Try.func142, Try.ntmps142
    go_wp2_with (first | (go_at_call 126; refine (HT.out _).mono ?_; rintro e w' ⟨rfl, hw'⟩; rw [hw']; clear hw') | (go_at_call 153; refine Calls.mono H1.out ?_; rintro e w' ⟨rfl, n5, rfl⟩))
    go_ret
    first | exact ⟨rfl, _, rfl⟩ | exact ⟨rfl, 0, rfl⟩
  · rw [if_neg (show ¬ ((5 : Int) = 0) by decide), if_neg (show ¬ ((5 : Int) = 1) by decide), if_neg (show ¬ ((5 : Int) = 2) by decide), if_neg (show ¬ ((5 : Int) = 3) by decide), if_neg (show ¬ ((5 : Int) = 4) by decide), if_pos rfl]
    go_enter Try.func142, Try.ntmps142
    go_wp2_with (first | (go_at_call 126; refine (HT.out _).mono ?_; rintro e w' ⟨rfl, hw'⟩; rw [hw']; clear hw') | (go_at_call 153; refine Calls.mono H2.out ?_; rintro e w' ⟨rfl, n5, rfl⟩))
    go_ret
    first | exact ⟨rfl, _, rfl⟩ | exact ⟨rfl, 0, rfl⟩
  · rw [if_neg (show ¬ ((6 : Int) = 0) by decide), if_neg (show ¬ ((6 : Int) = 1) by decide), if_neg (show ¬ ((6 : Int) = 2) by decide), if_neg (show ¬ ((6 : Int) = 3) by decide), if_neg (show ¬ ((6 : Int) = 4) by decide), if_neg (show ¬ ((6 : Int) = 5) by decide)]
    go_enter Try.func142, Try.ntmps142
    go_wp2_with (go_at_call 126; refine (HT.out _).mono ?_; rintro e w' ⟨rfl, hw'⟩; rw [hw']; clear hw')
    go_ret
    first | exact ⟨rfl, _, rfl⟩ | exact ⟨rfl, 0, rfl⟩
  · rw [if_neg (show ¬ ((7 : Int) = 0) by decide), if_neg (show ¬ ((7 : Int) = 1) by decide), if_neg (show ¬ ((7 : Int) = 2) by decide), if_neg (show ¬ ((7 : Int) = 3) by decide), if_neg (show ¬ ((7 : Int) = 4) by decide), if_neg (show ¬ ((7 : Int) = 5) by decide)]
    go_enter Try.func142, Try.ntmps142
    go_wp2_with (go_at_call 126; refine (HT.out _).mono ?_; rintro e w' ⟨rfl, hw'⟩; rw [hw']; clear hw')
    go_ret
    first | exact ⟨rfl, _, rfl⟩ | exact ⟨rfl, 0, rfl⟩

end Go.Proofs.Ytlmcfclonncgbaa
/- The visitor (package unify): numbers; two that are alike. -/
namespace Go.Proofs.Ytlmcfclonncgbaa
open Go.RowKit
set_option linter.unusedVariables false
set_option linter.unusedSimpArgs false

theorem sgn_wrap {y : Int} (h0 : 0 ≤ y) (h1 : y < 18446744073709551616) : IntKind.i64.wrap y = sgn y := by
  rw [IntKind.wrap_i64]; unfold sgn; split <;> omega
theorem sgn_intC {c : Int} (h0 : 0 ≤ c) (h1 : c < 18446744073709551616) : intC c = sgn c / 8 := by
  unfold intC wrap64 sgn; split <;> omega
theorem getD_u64 {l : List Int} (hl0 : ∀ x ∈ l, 0 ≤ x ∧ x < 18446744073709551616) (j : Nat) : 0 ≤ l.getD j 0 ∧ l.getD j 0 < 18446744073709551616 := by
  by_cases hj : j < l.length
  · simp only [List.getD, List.getElem?_eq_getElem hj, Option.getD_some]; exact hl0 _ (List.getElem_mem hj)
  · simp [List.getD, List.getElem?_eq_none (Nat.le_of_not_lt hj)]
theorem vnumber_any (own : Nat → Nat) (idv idh : Nat) (w : World) (v ph n : Nat) (pt : Value) (most c : Int) (l : List Int)(hb : VB own idv w v ph pt n) (hh : HP own idh w ph most l) (hc0 : 0 ≤ c) (hc1 : c < 18446744073709551616) (hl0 : ∀ x ∈ l, 0 ≤ x ∧ x < 18446744073709551616) :
    Calls Try.prog 164 #[.pointer (some ⟨v, 0, none⟩), .int .u64 c] w (Quiet w (.int .i64 (numB l c))) := by
  unfold numB
  by_cases h : c % 8 = 4
  · have hq : (c % 8 == 4) = true := by simpa using h
    rw [if_pos h]
    have hwd := word_any own idv idh w v ph n pt most c l 0 hb hh hc0 hc1 (by decide) (by decide)
    rw [getV_getD (by omega), Int.add_zero] at hwd
    have hy := getD_u64 hl0 (c / 8).toNat
    obtain ⟨y, hyy⟩ : ∃ y, l.getD (c / 8).toNat 0 = y := ⟨_, rfl⟩
    rw [hyy] at hwd hy ⊢
    have hs := sgn_wrap hy.1 hy.2
    have HW := Lib.hid hwd
    clear hwd hb hh hl0 hy hyy h
    go_enter Try.func164, Try.ntmps164
    go_wp2_with (first | (go_at_call 126; refine (tag_any c _).mono ?_; rintro e w' ⟨rfl, hw'⟩; rw [hw']; clear hw') | (go_at_call 147; refine Calls.mono HW.out ?_; rintro e w' ⟨rfl, n5, rfl⟩))
    go_ret
    exact ⟨rfl, _, rfl⟩
  · have hq : (c % 8 == 4) = false := by simpa using h
    rw [if_neg h, ← sgn_intC hc0 hc1]
    clear hb hh hl0 h
    go_enter Try.func164, Try.ntmps164
    go_wp2_with (first | (go_at_call 126; refine (tag_any c _).mono ?_; rintro e w' ⟨rfl, hw'⟩; rw [hw']; clear hw') | (go_at_call 130; refine (int_any c _).mono ?_; rintro e w' ⟨rfl, hw'⟩; rw [hw']; clear hw'))
    go_ret
    exact ⟨rfl, 0, rfl⟩
theorem vint_any (t : Int) (w : World) : Calls Try.prog 163 #[.int .i64 t] w fun e w' => e = .returned (.bool (decide (t = 3) || decide (t = 4))) ∧ w' = w := by
  by_cases h3 : t = 3
  · subst h3
    go_enter Try.func163, Try.ntmps163
    go_wp2_with fail
    go_ret
    exact ⟨rfl, rfl⟩
  · have q3 : (t == 3) = false := by simpa using h3
    have e : (decide (t = 3) || decide (t = 4)) = (t == 4) := by rw [decide_eq_false h3, Bool.false_or]; simp [BEq.beq]
    rw [e]
    clear h3 e
    go_enter Try.func163, Try.ntmps163
    go_wp2_with fail
    go_ret
    exact ⟨rfl, rfl⟩
set_option maxHeartbeats 1000000 in
set_option maxRecDepth 100000 in
theorem valike_any (own : Nat → Nat) (idv idh : Nat) (w : World) (v ph n : Nat) (pt : Value) (most a b : Int) (l : List Int)(hb : VB own idv w v ph pt n) (hh : HP own idh w ph most l) (ha : 0 ≤ a ∧ a < 18446744073709551616) (hbb : 0 ≤ b ∧ b < 18446744073709551616) (hl0 : ∀ x ∈ l, 0 ≤ x ∧ x < 18446744073709551616) :
    Calls Try.prog 144 #[.pointer (some ⟨v, 0, none⟩), .int .u64 a, .int .u64 b] w (Quiet w (.bool (alikeB l a b))) := by
  have hna := fun n1 => vnumber_any own idv idh (w.drewN n1) v ph n pt most a l (hb.dr n1) (hh.dr n1) ha.1 ha.2 hl0
  have hnb := fun n1 => vnumber_any own idv idh (w.drewN n1) v ph n pt most b l (hb.dr n1) (hh.dr n1) hbb.1 hbb.2 hl0
  have hfa := fun n1 => vfunctor_any own idv idh (w.drewN n1) v ph n pt most a l (hb.dr n1) (hh.dr n1) ha.1 ha.2 hl0
  have hfb := fun n1 => vfunctor_any own idv idh (w.drewN n1) v ph n pt most b l (hb.dr n1) (hh.dr n1) hbb.1 hbb.2 hl0
  have hwa := fun n1 => word_any own idv idh (w.drewN n1) v ph n pt most a l 0 (hb.dr n1) (hh.dr n1) ha.1 ha.2 (by decide) (by decide)
  have hwb := fun n1 => word_any own idv idh (w.drewN n1) v ph n pt most b l 0 (hb.dr n1) (hh.dr n1) hbb.1 hbb.2 (by decide) (by decide)
  have hwa1 := fun n1 => word_any own idv idh (w.drewN n1) v ph n pt most a l 1 (hb.dr n1) (hh.dr n1) ha.1 ha.2 (by decide) (by decide)
  have hwb1 := fun n1 => word_any own idv idh (w.drewN n1) v ph n pt most b l 1 (hb.dr n1) (hh.dr n1) hbb.1 hbb.2 (by decide) (by decide)
  rw [getV_getD (by omega), Int.add_zero] at hwa hwb
  rw [getV_getD (by omega), show (a / 8 + 1).toNat = (a / 8).toNat + 1 by omega] at hwa1
  rw [getV_getD (by omega), show (b / 8 + 1).toNat = (b / 8).toNat + 1 by omega] at hwb1
  unfold functorV at hfa hfb
  unfold alikeB intB
  generalize numB l a = na at *
  generalize numB l b = nb at *
  generalize fnB l (a / 8).toNat = fa at *
  generalize fnB l (b / 8).toNat = fb at *
  generalize l.getD ((a / 8).toNat + 1) 0 = wa1 at *
  generalize l.getD ((b / 8).toNat + 1) 0 = wb1 at *
  generalize l.getD (a / 8).toNat 0 = wa at *
  generalize l.getD (b / 8).toNat 0 = wb at *
  obtain ⟨s, hs⟩ : ∃ s, a % 8 = s := ⟨_, rfl⟩
  obtain ⟨t, ht⟩ : ∃ t, b % 8 = t := ⟨_, rfl⟩
  have hta : ∀ w, Calls Try.prog 126 #[.int .u64 a] w fun e w' => e = .returned (.int .i64 s) ∧ w' = w := fun w => by rw [← hs]; exact tag_any a w
  have htb : ∀ w, Calls Try.prog 126 #[.int .u64 b] w fun e w' => e = .returned (.int .i64 t) ∧ w' = w := fun w => by rw [← ht]; exact tag_any b w
  rw [hs, ht]
  have HTA := Lib.hid hta
  have HTB := Lib.hid htb
  have HNA := Lib.hid hna
  have HNB := Lib.hid hnb
  have HFA := Lib.hid hfa
  have HFB := Lib.hid hfb
  have HWA := Lib.hid hwa
  have HWB := Lib.hid hwb
  have HWA1 := Lib.hid hwa1
  have HWB1 := Lib.hid hwb1
  clear hta htb hna hnb hfa hfb hwa hwb hwa1 hwb1 hs ht hb hh ha hbb hl0
  have hvs := vint_any s
  have hvt := vint_any t
  by_cases hi : (decide (s = 3) || decide (s = 4)) = true
  · by_cases hj : (decide (t = 3) || decide (t = 4)) = true
    · rw [hi, hj, Bool.and_self, if_pos rfl]
      rw [hi] at hvs
      rw [hj] at hvt
      have HVS := Lib.hid hvs
      have HVT := Lib.hid hvt
      clear hi hj hvs hvt
      have e : decide (na = nb) = (na == nb) := by simp [BEq.beq]
      rw [e]
      go_enter Try.func144, Try.ntmps144
      go_wp2_with (first
        | (go_at_call 126; have hq9 := hTA; refine (HTB.out _).mono ?_; rintro e w' ⟨rfl, hw'⟩; rw [hw']; clear hw' hq9) | (go_at_call 126; refine (HTA.out _).mono ?_; rintro e w' ⟨rfl, hw'⟩; rw [hw']; clear hw'; have hTA : True := trivial)
        | (go_at_call 163; have hq8 := hVS; clear hq8; refine (HVT.out _).mono ?_; rintro e w' ⟨rfl, hw'⟩; rw [hw']; clear hw') | (go_at_call 163; refine (HVS.out _).mono ?_; rintro e w' ⟨rfl, hw'⟩; rw [hw']; clear hw'; have hVS : True := trivial)
        | (go_at_call 164; have hq1 := nq0; clear hq1; refine Calls.mono (HNB.out _) ?_; rintro e w' ⟨rfl, nq1, rfl⟩)
        | (go_at_call 164; refine Calls.mono (HNA.out 0) ?_; rintro e w' ⟨rfl, nq0, rfl⟩))
      go_ret
      first | exact ⟨rfl, _, rfl⟩ | exact ⟨rfl, 0, rfl⟩
    · have hj' : (decide (t = 3) || decide (t = 4)) = false := by simpa using hj
      have hne : s ≠ t := by rintro rfl; exact hj hi
      have hne' : (s != t) = true := by simpa using hne
      rw [hi, hj', Bool.and_false, if_neg (by decide), if_pos hne]
      rw [hi] at hvs
      rw [hj'] at hvt
      have HVS := Lib.hid hvs
      have HVT := Lib.hid hvt
      clear hne hj hj' hi hvs hvt
      go_enter Try.func144, Try.ntmps144
      go_wp2_with (first
        | (go_at_call 126; have hq9 := hTA; refine (HTB.out _).mono ?_; rintro e w' ⟨rfl, hw'⟩; rw [hw']; clear hw' hq9) | (go_at_call 126; refine (HTA.out _).mono ?_; rintro e w' ⟨rfl, hw'⟩; rw [hw']; clear hw'; have hTA : True := trivial)
        | (go_at_call 163; have hq8 := hVS; clear hq8; refine (HVT.out _).mono ?_; rintro e w' ⟨rfl, hw'⟩; rw [hw']; clear hw') | (go_at_call 163; refine (HVS.out _).mono ?_; rintro e w' ⟨rfl, hw'⟩; rw [hw']; clear hw'; have hVS : True := trivial))
      go_ret
      first | exact ⟨rfl, _, rfl⟩ | exact ⟨rfl, 0, rfl⟩
  · have hi' : (decide (s = 3) || decide (s = 4)) = false := by simpa using hi
    rw [hi', Bool.false_and, if_neg (by decide)]
    rw [hi'] at hvs
    have HVS := Lib.hid hvs
    have HVT := Lib.hid hvt
    clear hi hi' hvs hvt
    by_cases hne : s = t
    · have hne' : (s != t) = false := by simpa using hne
      rw [if_neg (by simpa using hne)]
      by_cases h2 : s = 2
      · have q2 : (s == 2) = true := by simpa using h2
        rw [if_pos h2, show decide (a = b) = (a == b) by simp [BEq.beq]]
        clear h2 hne
        go_enter Try.func144, Try.ntmps144
        go_wp2_with (first
          | (go_at_call 126; have hq9 := hTA; refine (HTB.out _).mono ?_; rintro e w' ⟨rfl, hw'⟩; rw [hw']; clear hw' hq9) | (go_at_call 126; refine (HTA.out _).mono ?_; rintro e w' ⟨rfl, hw'⟩; rw [hw']; clear hw'; have hTA : True := trivial)
          | (go_at_call 163; have hq8 := hVS; clear hq8; refine (HVT.out _).mono ?_; rintro e w' ⟨rfl, hw'⟩; rw [hw']; clear hw') | (go_at_call 163; refine (HVS.out _).mono ?_; rintro e w' ⟨rfl, hw'⟩; rw [hw']; clear hw'; have hVS : True := trivial))
        go_ret
        first | exact ⟨rfl, _, rfl⟩ | exact ⟨rfl, 0, rfl⟩
      · have q2 : (s == 2) = false := by simpa using h2
        rw [if_neg h2]
        by_cases h5 : s = 5
        · have q5 : (s == 5) = true := by simpa using h5
          rw [if_pos h5]
          by_cases hw0 : wa = wb
          · have qw : (wa == wb) = true := by simpa using hw0
            rw [decide_eq_true hw0, Bool.true_and, show decide (wa1 = wb1) = (wa1 == wb1) by simp [BEq.beq]]
            clear hw0 h5 h2 hne
            go_enter Try.func144, Try.ntmps144
            go_wp2_with (first
              | (go_at_call 126; have hq9 := hTA; refine (HTB.out _).mono ?_; rintro e w' ⟨rfl, hw'⟩; rw [hw']; clear hw' hq9) | (go_at_call 126; refine (HTA.out _).mono ?_; rintro e w' ⟨rfl, hw'⟩; rw [hw']; clear hw'; have hTA : True := trivial)
              | (go_at_call 163; have hq8 := hVS; clear hq8; refine (HVT.out _).mono ?_; rintro e w' ⟨rfl, hw'⟩; rw [hw']; clear hw') | (go_at_call 163; refine (HVS.out _).mono ?_; rintro e w' ⟨rfl, hw'⟩; rw [hw']; clear hw'; have hVS : True := trivial)
              | (go_at_call 147; have hq3 := nq2; clear hq3; refine Calls.mono (HWB1.out _) ?_; rintro e w' ⟨rfl, nq3, rfl⟩)
              | (go_at_call 147; have hq2 := nq1; clear hq2; refine Calls.mono (HWA1.out _) ?_; rintro e w' ⟨rfl, nq2, rfl⟩)
              | (go_at_call 147; have hq1 := nq0; clear hq1; refine Calls.mono (HWB.out _) ?_; rintro e w' ⟨rfl, nq1, rfl⟩)
              | (go_at_call 147; refine Calls.mono (HWA.out 0) ?_; rintro e w' ⟨rfl, nq0, rfl⟩))
            go_ret
            first | exact ⟨rfl, _, rfl⟩ | exact ⟨rfl, 0, rfl⟩
          · have qw : (wa == wb) = false := by simpa using hw0
            rw [decide_eq_false hw0, Bool.false_and]
            clear hw0 h5 h2 hne
            go_enter Try.func144, Try.ntmps144
            go_wp2_with (first
              | (go_at_call 126; have hq9 := hTA; refine (HTB.out _).mono ?_; rintro e w' ⟨rfl, hw'⟩; rw [hw']; clear hw' hq9) | (go_at_call 126; refine (HTA.out _).mono ?_; rintro e w' ⟨rfl, hw'⟩; rw [hw']; clear hw'; have hTA : True := trivial)
              | (go_at_call 163; have hq8 := hVS; clear hq8; refine (HVT.out _).mono ?_; rintro e w' ⟨rfl, hw'⟩; rw [hw']; clear hw') | (go_at_call 163; refine (HVS.out _).mono ?_; rintro e w' ⟨rfl, hw'⟩; rw [hw']; clear hw'; have hVS : True := trivial)
              | (go_at_call 147; have hq1 := nq0; clear hq1; refine Calls.mono (HWB.out _) ?_; rintro e w' ⟨rfl, nq1, rfl⟩)
              | (go_at_call 147; refine Calls.mono (HWA.out 0) ?_; rintro e w' ⟨rfl, nq0, rfl⟩))
            go_ret
            first | exact ⟨rfl, _, rfl⟩ | exact ⟨rfl, 0, rfl⟩
        · have q5 : (s == 5) = false := by simpa using h5
          rw [if_neg h5, show decide (wa = wb) = (wa == wb) by simp [BEq.beq]]
          clear h5 h2 hne
          go_enter Try.func144, Try.ntmps144
          go_wp2_with (first
            | (go_at_call 126; have hq9 := hTA; refine (HTB.out _).mono ?_; rintro e w' ⟨rfl, hw'⟩; rw [hw']; clear hw' hq9) | (go_at_call 126; refine (HTA.out _).mono ?_; rintro e w' ⟨rfl, hw'⟩; rw [hw']; clear hw'; have hTA : True := trivial)
            | (go_at_call 163; have hq8 := hVS; clear hq8; refine (HVT.out _).mono ?_; rintro e w' ⟨rfl, hw'⟩; rw [hw']; clear hw') | (go_at_call 163; refine (HVS.out _).mono ?_; rintro e w' ⟨rfl, hw'⟩; rw [hw']; clear hw'; have hVS : True := trivial)
            | (go_at_call 145; have hq1 := nq0; clear hq1; refine Calls.mono (HFB.out _) ?_; rintro e w' ⟨rfl, nq1, rfl⟩)
            | (go_at_call 145; refine Calls.mono (HFA.out 0) ?_; rintro e w' ⟨rfl, nq0, rfl⟩))
          go_ret
          first | exact ⟨rfl, _, rfl⟩ | exact ⟨rfl, 0, rfl⟩
    · have hne' : (s != t) = true := by simpa using hne
      rw [if_pos hne]
      clear hne
      go_enter Try.func144, Try.ntmps144
      go_wp2_with (first
        | (go_at_call 126; have hq9 := hTA; refine (HTB.out _).mono ?_; rintro e w' ⟨rfl, hw'⟩; rw [hw']; clear hw' hq9) | (go_at_call 126; refine (HTA.out _).mono ?_; rintro e w' ⟨rfl, hw'⟩; rw [hw']; clear hw'; have hTA : True := trivial)
        | (go_at_call 163; have hq8 := hVS; clear hq8; refine (HVT.out _).mono ?_; rintro e w' ⟨rfl, hw'⟩; rw [hw']; clear hw') | (go_at_call 163; refine (HVS.out _).mono ?_; rintro e w' ⟨rfl, hw'⟩; rw [hw']; clear hw'; have hVS : True := trivial))
      go_ret
      first | exact ⟨rfl, _, rfl⟩ | exact ⟨rfl, 0, rfl⟩

end Go.Proofs.Ytlmcfclonncgbaa
