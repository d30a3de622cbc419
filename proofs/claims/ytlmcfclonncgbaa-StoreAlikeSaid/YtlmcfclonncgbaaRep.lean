/- What a cell stands for on a heap; what becomes of it where a variable is bound. No program in sight. -/
import Derived.Test.YtlmcfclonncgbaaTree
namespace Go.Proofs.Ytlmcfclonncgbaa
set_option linter.unusedVariables false

/-- What a cell comes to: references followed, at most so many. -/
def derefF (l : List Int) : Nat → Int → Int
  | 0, c => c
  | n + 1, c => if c % 8 = 0 ∧ c / 8 < l.length then (if l.getD (c / 8).toNat 0 = c then c else derefF l n (l.getD (c / 8).toNat 0)) else c
def deref (l : List Int) (c : Int) : Int := derefF l l.length c

/-- A row of references that ends, and its length. -/
inductive ChN (l : List Int) : Nat → Int → Int → Prop
  | stop {c : Int} (h : c % 8 = 0 → c / 8 < l.length → l.getD (c / 8).toNat 0 = c) : ChN l 0 c c
  | step {k : Nat} {c d : Int} (h8 : c % 8 = 0) (hlt : c / 8 < l.length) (hne : l.getD (c / 8).toNat 0 ≠ c) (h : ChN l k (l.getD (c / 8).toNat 0) d) : ChN l (k + 1) c d
def Ch (l : List Int) (c d : Int) : Prop := ∃ k, ChN l k c d

theorem ChN.det {l : List Int} {k k' : Nat} {c d d' : Int} (h : ChN l k c d) : ChN l k' c d' → k = k' ∧ d = d' := by
  induction h generalizing k' d' with
  | stop hs =>
    intro h'
    cases h' with
    | stop _ => exact ⟨rfl, rfl⟩
    | step h8 hlt hne _ => exact absurd (hs h8 hlt) hne
  | step h8 hlt hne _ ih =>
    intro h'
    cases h' with
    | stop hs => exact absurd (hs h8 hlt) hne
    | step _ _ _ h2 =>
      obtain ⟨a, b⟩ := ih h2
      exact ⟨by omega, b⟩
theorem Ch.det {l : List Int} {c d d' : Int} (h : Ch l c d) (h' : Ch l c d') : d = d' := by
  obtain ⟨k, h⟩ := h
  obtain ⟨k', h'⟩ := h'
  exact (h.det h').2

theorem pigeon : ∀ (n : Nat) (vs : List Nat), vs.Nodup → (∀ v ∈ vs, v < n) → vs.length ≤ n
  | 0, vs, _, h => by
    cases vs with
    | nil => simp
    | cons v vs => exact absurd (h v (by simp)) (by omega)
  | n + 1, vs, hn, h => by
    by_cases hm : n ∈ vs
    · have h1 := pigeon n (vs.erase n) (hn.erase n) (fun v hv => by
        have := (hn.mem_erase_iff).1 hv
        have := h v this.2
        omega)
      rw [List.length_erase_of_mem hm] at h1
      omega
    · have := pigeon n vs hn (fun v hv => by
        have := h v hv
        have : v ≠ n := fun e => hm (e ▸ hv)
        omega)
      omega

theorem getD_pos {l : List Int} (h : ∀ x ∈ l, 0 ≤ x) (m : Nat) : 0 ≤ l.getD m 0 := by
  by_cases hm : m < l.length
  · simp only [List.getD, List.getElem?_eq_getElem hm, Option.getD_some]
    exact h _ (List.getElem_mem hm)
  · simp [List.getD, List.getElem?_eq_none (Nat.le_of_not_lt hm)]

theorem ChN.visits {l : List Int} (hl : ∀ x ∈ l, 0 ≤ x) {k : Nat} {c d : Int} (h : ChN l k c d) : 0 ≤ c → ∃ vs : List Nat, vs.length = k ∧ vs.Nodup ∧ (∀ v ∈ vs, v < l.length ∧ ∃ j, 1 ≤ j ∧ j ≤ k ∧ ChN l j ((v : Int) * 8) d) := by
  induction h with
  | stop _ => intro _; exact ⟨[], rfl, List.nodup_nil, by simp⟩
  | @step k c d h8 hlt hne h ih =>
    intro hc
    obtain ⟨vs, h1, h2, h3⟩ := ih (getD_pos hl _)
    have hcc : (((c / 8).toNat : Nat) : Int) * 8 = c := by omega
    refine ⟨(c / 8).toNat :: vs, by simp [h1], ?_, ?_⟩
    · rw [List.nodup_cons]
      refine ⟨fun hm => ?_, h2⟩
      obtain ⟨_, j, hj1, hj2, hj⟩ := h3 _ hm
      rw [hcc] at hj
      have := hj.det (.step h8 hlt hne h)
      omega
    · intro v hv
      rcases List.mem_cons.1 hv with rfl | hv
      · refine ⟨by omega, k + 1, by omega, Nat.le_refl _, ?_⟩
        rw [hcc]
        exact .step h8 hlt hne h
      · obtain ⟨a, j, b1, b2, b3⟩ := h3 v hv
        exact ⟨a, j, b1, by omega, b3⟩
theorem ChN.derefF {l : List Int} {k : Nat} {c d : Int} (h : ChN l k c d) : ∀ n, k ≤ n → derefF l n c = d := by
  induction h with
  | stop hs =>
    intro n _
    cases n with
    | zero => rfl
    | succ n =>
      unfold Ytlmcfclonncgbaa.derefF
      split
      · rename_i h; rw [if_pos (hs h.1 h.2)]
      · rfl
  | step h8 hlt hne h ih =>
    intro n hn
    cases n with
    | zero => omega
    | succ n =>
      unfold Ytlmcfclonncgbaa.derefF
      rw [if_pos ⟨h8, hlt⟩, if_neg hne]
      exact ih n (by omega)
/-- A row that ends is followed to its end. -/
theorem deref_of {l : List Int} (hl : ∀ x ∈ l, 0 ≤ x) {c d : Int} (hc : 0 ≤ c) (h : Ch l c d) : deref l c = d := by
  obtain ⟨k, h⟩ := h
  obtain ⟨vs, h1, h2, h3⟩ := h.visits hl hc
  exact h.derefF _ (by rw [← h1]; exact pigeon _ vs h2 (fun v hv => (h3 v hv).1))
theorem Ch.self {l : List Int} {c : Int} (h : c % 8 ≠ 0 ∨ l.getD (c / 8).toNat 0 = c) : Ch l c c := ⟨0, .stop (fun h8 _ => h.resolve_left (fun h' => h' h8))⟩
theorem Ch.cons {l : List Int} {c d : Int} (h8 : c % 8 = 0) (hlt : c / 8 < l.length) (h : Ch l (l.getD (c / 8).toNat 0) d) : Ch l c d := by
  by_cases he : l.getD (c / 8).toNat 0 = c
  · rwa [he] at h
  · obtain ⟨k, h⟩ := h
    exact ⟨k + 1, .step h8 hlt he h⟩
/-- What a row ends in is an end. -/
theorem Ch.end {l : List Int} {c d : Int} (h : Ch l c d) : Ch l d d := by
  obtain ⟨k, h⟩ := h
  induction h with
  | stop hs => exact ⟨0, .stop hs⟩
  | step _ _ _ _ ih => exact ih
theorem getD_append {l m : List Int} {j : Nat} (h : j < l.length) : (l ++ m).getD j 0 = l.getD j 0 := by
  simp only [List.getD]; rw [List.getElem?_append_left h]
theorem Ch.grow {l m : List Int} {c d : Int} (h : Ch l c d) (hc : 0 ≤ c) (hl : ∀ x ∈ l, 0 ≤ x) (hd : d % 8 ≠ 0 ∨ d / 8 < l.length) : Ch (l ++ m) c d := by
  obtain ⟨k, h⟩ := h
  induction h with
  | @stop c hs =>
    refine ⟨0, .stop fun h8 hlt => ?_⟩
    have hlt' : c / 8 < l.length := hd.resolve_left (fun h' => h' h8)
    rw [getD_append (by omega)]
    exact hs h8 hlt'
  | @step k c d h8 hlt hne h ih =>
    refine Ch.cons h8 (by rw [List.length_append]; omega) ?_
    rw [getD_append (by omega)]
    exact ih (getD_pos hl _) hd
theorem getD_set {l : List Int} {p j : Nat} {x : Int} : (l.set p x).getD j 0 = if p = j ∧ p < l.length then x else l.getD j 0 := by
  simp only [List.getD, List.getElem?_set]
  by_cases h : p = j
  · subst h
    by_cases h2 : p < l.length
    · simp [h2]
    · simp [h2]
  · simp [h]
/-- A variable bound: a row that ended elsewhere ends there still. -/
theorem Ch.set_other {l : List Int} {p : Nat} {x c d : Int} (h : Ch l c d) (hc : 0 ≤ c) (hl : ∀ x ∈ l, 0 ≤ x) (hp : l.getD p 0 = (p : Int) * 8) (hd : d ≠ (p : Int) * 8) : Ch (l.set p x) c d := by
  obtain ⟨k, h⟩ := h
  induction h with
  | @stop c hs =>
    refine ⟨0, .stop fun h8 hlt => ?_⟩
    rw [List.length_set] at hlt
    rw [getD_set, if_neg (by omega)]
    exact hs h8 hlt
  | @step k c d h8 hlt hne h ih =>
    refine Ch.cons h8 (by rw [List.length_set]; exact hlt) ?_
    rw [getD_set, if_neg ?_]
    · exact ih (getD_pos hl _) hd
    · rintro ⟨e, _⟩
      apply hne
      rw [← e, hp]
      omega
/-- .. and one that ended there goes on to what it was bound to. -/
theorem Ch.set_same {l : List Int} {p : Nat} {x c d : Int} (h : Ch l c ((p : Int) * 8)) (hc : 0 ≤ c) (hl : ∀ x ∈ l, 0 ≤ x) (hp : l.getD p 0 = (p : Int) * 8) (hlt : p < l.length) (hx : Ch (l.set p x) x d) : Ch (l.set p x) c d := by
  obtain ⟨k, h⟩ := h
  generalize he : (p : Int) * 8 = e at h
  induction h with
  | @stop c hs =>
    refine Ch.cons (by omega) (by rw [List.length_set]; omega) ?_
    have e1 : (c / 8).toNat = p := by omega
    rw [e1, getD_set, if_pos ⟨rfl, hlt⟩]
    exact hx
  | @step k c d h8 hlt' hne h ih =>
    refine Ch.cons h8 (by rw [List.length_set]; exact hlt') ?_
    rw [getD_set, if_neg ?_]
    · exact ih (getD_pos hl _) he
    · rintro ⟨e1, _⟩
      apply hne
      rw [← e1, hp]
      omega

/-! What a cell stands for -/
def smallC (n : Int) : Int := (n % 2305843009213693952) * 8 + 3
def isSmall (n : Int) : Prop := -1152921504606846976 ≤ n ∧ n < 1152921504606846976
instance (n : Int) : Decidable (isSmall n) := by unfold isSmall; infer_instance
def funC (i n : Nat) : Int := ((i : Int) * 256 + n) * 8 + 6
mutual
/-- A cell stands for a term; its variables: places. W: the places of plain words. -/
def rep (W : Nat → Prop) (l : List Int) (L : List ByteArray) : CT → Int → Prop
  | .var n, c => ∃ p : Nat, n = p ∧ p < l.length ∧ ¬ W p ∧ l.getD p 0 = (p : Int) * 8 ∧ Ch l c ((p : Int) * 8)
  | .atom s, c => ∃ i : Nat, L[i]? = some s ∧ Ch l c ((i : Int) * 8 + 2)
  | .int n, c => (isSmall n ∧ Ch l c (smallC n)) ∨ (¬ isSmall n ∧ -9223372036854775808 ≤ n ∧ n < 9223372036854775808 ∧ ∃ p : Nat, p < l.length ∧ W p ∧ l.getD p 0 = n % 18446744073709551616 ∧ Ch l c ((p : Int) * 8 + 4))
  | .cpx re im, c => ∃ p : Nat, p + 1 < l.length ∧ W p ∧ W (p + 1) ∧ l.getD p 0 = re ∧ l.getD (p + 1) 0 = im ∧ Ch l c ((p : Int) * 8 + 5)
  | .comp s args, c => ∃ p i : Nat, p + args.length < l.length ∧ ¬ W p ∧ l.getD p 0 = funC i args.length ∧ L[i]? = some s ∧ Ch l c ((p : Int) * 8 + 1) ∧ reps W l L args (p + 1)
def reps (W : Nat → Prop) (l : List Int) (L : List ByteArray) : List CT → Nat → Prop
  | [], _ => True
  | a :: as, p => ¬ W p ∧ rep W l L a (l.getD p 0) ∧ reps W l L as (p + 1)
end
mutual
/-- A variable stands in a term. -/
def occ (n : Int) : CT → Prop
  | .var m => n = m
  | .atom _ => False
  | .int _ => False
  | .cpx _ _ => False
  | .comp _ args => occs n args
def occs (n : Int) : List CT → Prop
  | [] => False
  | t :: ts => occ n t ∨ occs n ts
end
mutual
/-- Variables replaced. -/
def subst (f : Int → CT) : CT → CT
  | .var m => f m
  | .atom s => .atom s
  | .int n => .int n
  | .cpx re im => .cpx re im
  | .comp s args => .comp s (substs f args)
def substs (f : Int → CT) : List CT → List CT
  | [] => []
  | t :: ts => subst f t :: substs f ts
end
theorem substs_map (f : Int → CT) (l : List CT) : substs f l = l.map (subst f) := by
  induction l with
  | nil => rfl
  | cons a l ih => simp [substs, ih]
theorem substs_length (f : Int → CT) (l : List CT) : (substs f l).length = l.length := by rw [substs_map]; simp
def one (p : Nat) (X : CT) : Int → CT := fun m => if m = p then X else .var m
mutual
theorem subst_congr {f g : Int → CT} : ∀ t : CT, (∀ n, occ n t → f n = g n) → subst f t = subst g t
  | .var m, h => h m rfl
  | .atom s, _ => rfl
  | .int n, _ => rfl
  | .cpx re im, _ => rfl
  | .comp s args, h => by simp only [subst]; rw [substs_congr args h]
theorem substs_congr {f g : Int → CT} : ∀ l : List CT, (∀ n, occs n l → f n = g n) → substs f l = substs g l
  | [], _ => rfl
  | t :: ts, h => by simp only [substs]; rw [subst_congr t (fun n hn => h n (Or.inl hn)), substs_congr ts (fun n hn => h n (Or.inr hn))]
end
mutual
theorem subst_var : ∀ t : CT, subst .var t = t
  | .var m => rfl
  | .atom s => rfl
  | .int n => rfl
  | .cpx re im => rfl
  | .comp s args => by simp only [subst]; rw [substs_var args]
theorem substs_var : ∀ l : List CT, substs .var l = l
  | [] => rfl
  | t :: ts => by simp only [substs]; rw [subst_var t, substs_var ts]
end
theorem subst_one_not {p : Nat} {X t : CT} (h : ¬ occ p t) : subst (one p X) t = t := by
  rw [subst_congr (g := .var) t (fun n hn => by unfold one; rw [if_neg (fun e : n = (p : Int) => h (e ▸ hn))]), subst_var]
mutual
theorem subst_subst (f g : Int → CT) : ∀ t : CT, subst g (subst f t) = subst (fun n => subst g (f n)) t
  | .var m => rfl
  | .atom s => rfl
  | .int n => rfl
  | .cpx re im => rfl
  | .comp s args => by simp only [subst]; rw [substs_substs f g args]
theorem substs_substs (f g : Int → CT) : ∀ l : List CT, substs g (substs f l) = substs (fun n => subst g (f n)) l
  | [] => rfl
  | t :: ts => by simp only [substs]; rw [subst_subst f g t, substs_substs f g ts]
end
mutual
theorem occ_subst (f : Int → CT) : ∀ (t : CT) (n : Int), occ n (subst f t) ↔ ∃ m, occ m t ∧ occ n (f m)
  | .var m, n => by simp only [subst, occ]; exact ⟨fun h => ⟨m, rfl, h⟩, fun ⟨k, hk, h⟩ => hk ▸ h⟩
  | .atom s, n => by simp [subst, occ]
  | .int k, n => by simp [subst, occ]
  | .cpx re im, n => by simp [subst, occ]
  | .comp s args, n => by simp only [subst, occ]; exact occs_substs f args n
theorem occs_substs (f : Int → CT) : ∀ (l : List CT) (n : Int), occs n (substs f l) ↔ ∃ m, occs m l ∧ occ n (f m)
  | [], n => by simp [substs, occs]
  | t :: ts, n => by
    simp only [substs, occs, occ_subst f t n, occs_substs f ts n]
    constructor
    · rintro (⟨m, a, b⟩ | ⟨m, a, b⟩)
      · exact ⟨m, Or.inl a, b⟩
      · exact ⟨m, Or.inr a, b⟩
    · rintro ⟨m, a | a, b⟩
      · exact Or.inl ⟨m, a, b⟩
      · exact Or.inr ⟨m, a, b⟩
end

/-- All words of a heap are none below 0. -/
def Pos (l : List Int) : Prop := ∀ x ∈ l, 0 ≤ x
theorem Pos.append {l m : List Int} (h : Pos l) (h' : Pos m) : Pos (l ++ m) := fun x hx => (List.mem_append.1 hx).elim (h x) (h' x)
theorem Pos.set {l : List Int} {p : Nat} {x : Int} (h : Pos l) (hx : 0 ≤ x) : Pos (l.set p x) := fun y hy => by
  rcases List.mem_or_eq_of_mem_set hy with hy | hy
  · exact h y hy
  · omega

section
variable {W W' : Nat → Prop} {l m : List Int} {L M : List ByteArray}
mutual
/-- More cells behind, more names: a cell stands for what it stood for. -/
theorem rep_grow (hl : Pos l) (hw : ∀ p, p < l.length → (W' p ↔ W p)) : ∀ (t : CT) (c : Int), 0 ≤ c → rep W l L t c → rep W' (l ++ m) (L ++ M) t c
  | .var n, c, hc, h => by
    obtain ⟨p, h1, h2, h3, h4, h5⟩ := h
    exact ⟨p, h1, by rw [List.length_append]; omega, fun h => h3 ((hw p h2).1 h), by rw [getD_append h2]; exact h4, h5.grow hc hl (by omega)⟩
  | .atom s, c, hc, h => by
    obtain ⟨i, h1, h2⟩ := h
    exact ⟨i, by rw [List.getElem?_append_left (List.getElem?_eq_some_iff.1 h1).1]; exact h1, h2.grow hc hl (by omega)⟩
  | .int n, c, hc, h => by
    rcases h with ⟨h1, h2⟩ | ⟨h1, h2, h3, p, h4, h5, h6, h7⟩
    · exact Or.inl ⟨h1, h2.grow hc hl (by unfold smallC; omega)⟩
    · exact Or.inr ⟨h1, h2, h3, p, by rw [List.length_append]; omega, (hw p h4).2 h5, by rw [getD_append h4]; exact h6, h7.grow hc hl (by omega)⟩
  | .cpx re im, c, hc, h => by
    obtain ⟨p, h1, h2, h3, h4, h5, h6⟩ := h
    exact ⟨p, by rw [List.length_append]; omega, (hw p (by omega)).2 h2, (hw _ h1).2 h3, by rw [getD_append (by omega)]; exact h4, by rw [getD_append (by omega)]; exact h5, h6.grow hc hl (by omega)⟩
  | .comp s args, c, hc, h => by
    obtain ⟨p, i, h1, h2, h3, h4, h5, h6⟩ := h
    exact ⟨p, i, by rw [List.length_append]; omega, fun h => h2 ((hw p (by omega)).1 h), by rw [getD_append (by omega)]; exact h3, by rw [List.getElem?_append_left (List.getElem?_eq_some_iff.1 h4).1]; exact h4, h5.grow hc hl (by omega), reps_grow hl hw args (p + 1) (by omega) h6⟩
theorem reps_grow (hl : Pos l) (hw : ∀ p, p < l.length → (W' p ↔ W p)) : ∀ (ts : List CT) (p : Nat), p + ts.length ≤ l.length → reps W l L ts p → reps W' (l ++ m) (L ++ M) ts p
  | [], _, _, _ => trivial
  | t :: ts, p, hp, ⟨h0, h1, h2⟩ => by
    have hp' : p + (ts.length + 1) ≤ l.length := by simpa using hp
    refine ⟨fun h => h0 ((hw p (by omega)).1 h), ?_, reps_grow hl hw ts (p + 1) (by omega) h2⟩
    rw [getD_append (by omega)]
    exact rep_grow hl hw t _ (getD_pos hl _) h1
end
mutual
theorem rep_set_not {p : Nat} {x : Int} (hl : Pos l) (hp : l.getD p 0 = (p : Int) * 8) (hw : ¬ W p) : ∀ (t : CT) (c : Int), 0 ≤ c → ¬ occ p t → rep W l L t c → rep W (l.set p x) L t c
  | .var n, c, hc, hn, h => by
    obtain ⟨q, h1, h2, h3, h4, h5⟩ := h
    have hne : q ≠ p := by rintro rfl; exact hn h1.symm
    exact ⟨q, h1, by rw [List.length_set]; exact h2, h3, by rw [getD_set, if_neg (by omega)]; exact h4, h5.set_other hc hl hp (by omega)⟩
  | .atom s, c, hc, hn, h => by
    obtain ⟨i, h1, h2⟩ := h
    exact ⟨i, h1, h2.set_other hc hl hp (by omega)⟩
  | .int n, c, hc, hn, h => by
    rcases h with ⟨h1, h2⟩ | ⟨h1, h2, h3, q, h4, h5, h6, h7⟩
    · exact Or.inl ⟨h1, h2.set_other hc hl hp (by unfold smallC; omega)⟩
    · have hne : q ≠ p := by rintro rfl; exact hw h5
      exact Or.inr ⟨h1, h2, h3, q, by rw [List.length_set]; exact h4, h5, by rw [getD_set, if_neg (by omega)]; exact h6, h7.set_other hc hl hp (by omega)⟩
  | .cpx re im, c, hc, hn, h => by
    obtain ⟨q, h1, h2, h3, h4, h5, h6⟩ := h
    have hne : q ≠ p := by rintro rfl; exact hw h2
    have hne' : q + 1 ≠ p := by rintro rfl; exact hw h3
    exact ⟨q, by rw [List.length_set]; exact h1, h2, h3, by rw [getD_set, if_neg (by omega)]; exact h4, by rw [getD_set, if_neg (by omega)]; exact h5, h6.set_other hc hl hp (by omega)⟩
  | .comp s args, c, hc, hn, h => by
    obtain ⟨q, i, h1, h2, h3, h4, h5, h6⟩ := h
    have hne : q ≠ p := by rintro rfl; rw [hp] at h3; unfold funC at h3; omega
    exact ⟨q, i, by rw [List.length_set]; exact h1, h2, by rw [getD_set, if_neg (by omega)]; exact h3, h4, h5.set_other hc hl hp (by omega), reps_set_not hl hp hw args (q + 1) (by omega) hn h6⟩
theorem reps_set_not {p : Nat} {x : Int} (hl : Pos l) (hp : l.getD p 0 = (p : Int) * 8) (hw : ¬ W p) : ∀ (ts : List CT) (q : Nat), q + ts.length ≤ l.length → ¬ occs p ts → reps W l L ts q → reps W (l.set p x) L ts q
  | [], _, _, _, _ => trivial
  | t :: ts, q, hq, hn, ⟨h0, h1, h2⟩ => by
    have hq' : q + (ts.length + 1) ≤ l.length := by simpa using hq
    have hne : q ≠ p := by
      rintro rfl
      rw [hp] at h1
      have hself : Ch l ((q : Int) * 8) ((q : Int) * 8) := Ch.self (Or.inr (by rw [show ((q : Int) * 8 / 8).toNat = q by omega]; exact hp))
      apply hn
      left
      cases t with
      | var n => obtain ⟨r, a, _, _, _, b⟩ := h1; have := b.det hself; show _ = _; omega
      | atom s => obtain ⟨i, _, b⟩ := h1; have := b.det hself; omega
      | int n => rcases h1 with ⟨_, b⟩ | ⟨_, _, _, r, _, _, _, b⟩ <;> have := b.det hself <;> unfold smallC at * <;> omega
      | cpx re im => obtain ⟨r, _, _, _, _, _, b⟩ := h1; have := b.det hself; omega
      | comp s args => obtain ⟨r, i, _, _, _, _, b, _⟩ := h1; have := b.det hself; omega
    refine ⟨h0, ?_, reps_set_not hl hp hw ts (q + 1) (by omega) (fun h => hn (Or.inr h)) h2⟩
    rw [getD_set, if_neg (by omega)]
    exact rep_set_not hl hp hw t _ (getD_pos hl _) (fun h => hn (Or.inl h)) h1
end
mutual
/-- A variable bound to a term in which it does not stand: each cell stands for its term with that in the variable's place. -/
theorem rep_set {p : Nat} {x : Int} {X : CT} (hl : Pos l) (hx0 : 0 ≤ x) (hp : l.getD p 0 = (p : Int) * 8) (hlt : p < l.length) (hw : ¬ W p) (hX : rep W l L X x) (hn : ¬ occ p X) : ∀ (t : CT) (c : Int), 0 ≤ c → rep W l L t c → rep W (l.set p x) L (subst (one p X) t) c
  | .var n, c, hc, h => by
    by_cases he : n = p
    · subst he
      obtain ⟨q, h1, h2, h3, h4, h5⟩ := h
      obtain rfl : p = q := by omega
      have hX' := rep_set_not (x := x) hl hp hw X x hx0 hn hX
      simp only [subst, one, if_true]
      have go : ∀ d, Ch (l.set p x) x d → Ch (l.set p x) c d := fun d hd => h5.set_same hc hl hp hlt hd
      cases X with
      | var n => obtain ⟨r, a1, a2, a3, a4, b⟩ := hX'; exact ⟨r, a1, a2, a3, a4, go _ b⟩
      | atom s => obtain ⟨i, a, b⟩ := hX'; exact ⟨i, a, go _ b⟩
      | int n =>
        rcases hX' with ⟨a, b⟩ | ⟨a1, a2, a3, r, a4, a5, a6, b⟩
        · exact Or.inl ⟨a, go _ b⟩
        · exact Or.inr ⟨a1, a2, a3, r, a4, a5, a6, go _ b⟩
      | cpx re im => obtain ⟨r, a1, a2, a3, a4, a5, b⟩ := hX'; exact ⟨r, a1, a2, a3, a4, a5, go _ b⟩
      | comp s args => obtain ⟨r, i, a1, a2, a3, a4, b, a5⟩ := hX'; exact ⟨r, i, a1, a2, a3, a4, go _ b, a5⟩
    · have h2 : subst (one p X) (.var n) = .var n := by simp only [subst, one]; rw [if_neg he]
      rw [h2]
      exact rep_set_not hl hp hw (.var n) c hc (fun h => he h.symm) h
  | .atom s, c, hc, h => rep_set_not hl hp hw (.atom s) c hc (fun h => h) h
  | .int n, c, hc, h => rep_set_not hl hp hw (.int n) c hc (fun h => h) h
  | .cpx re im, c, hc, h => rep_set_not hl hp hw (.cpx re im) c hc (fun h => h) h
  | .comp s args, c, hc, h => by
    obtain ⟨q, i, h1, h2, h3, h4, h5, h6⟩ := h
    have hne : q ≠ p := by rintro rfl; rw [hp] at h3; unfold funC at h3; omega
    refine ⟨q, i, by rw [List.length_set, substs_length]; exact h1, h2, by rw [getD_set, if_neg (by omega), substs_length]; exact h3, h4, h5.set_other hc hl hp (by omega), reps_set hl hx0 hp hlt hw hX hn args (q + 1) (by omega) h6⟩
theorem reps_set {p : Nat} {x : Int} {X : CT} (hl : Pos l) (hx0 : 0 ≤ x) (hp : l.getD p 0 = (p : Int) * 8) (hlt : p < l.length) (hw : ¬ W p) (hX : rep W l L X x) (hn : ¬ occ p X) : ∀ (ts : List CT) (q : Nat), q + ts.length ≤ l.length → reps W l L ts q → reps W (l.set p x) L (substs (one p X) ts) q
  | [], _, _, _ => trivial
  | t :: ts, q, hq, ⟨h0, h1, h2⟩ => by
    have hq' : q + (ts.length + 1) ≤ l.length := by simpa using hq
    refine ⟨h0, ?_, reps_set hl hx0 hp hlt hw hX hn ts (q + 1) (by omega) h2⟩
    rw [getD_set]
    by_cases he : p = q
    · subst he
      rw [if_pos ⟨rfl, hlt⟩]
      rw [hp] at h1
      have hself : Ch l ((p : Int) * 8) ((p : Int) * 8) := Ch.self (Or.inr (by rw [show ((p : Int) * 8 / 8).toNat = p by omega]; exact hp))
      have ht : t = .var p := by
        cases t with
        | var n => obtain ⟨r, a, _, _, _, b⟩ := h1; have := b.det hself; rw [a]; congr 1; omega
        | atom s => obtain ⟨i, _, b⟩ := h1; have := b.det hself; omega
        | int n => rcases h1 with ⟨_, b⟩ | ⟨_, _, _, r, _, _, _, b⟩ <;> have := b.det hself <;> unfold smallC at * <;> omega
        | cpx re im => obtain ⟨r, _, _, _, _, _, b⟩ := h1; have := b.det hself; omega
        | comp s args => obtain ⟨r, i, _, _, _, _, b, _⟩ := h1; have := b.det hself; omega
      subst ht
      have h2 : subst (one p X) (.var p) = X := by simp [subst, one]
      rw [h2]
      exact rep_set_not hl hp hw X x hx0 hn hX
    · rw [if_neg (by omega)]
      exact rep_set hl hx0 hp hlt hw hX hn t _ (getD_pos hl _) h1
end
end
end Go.Proofs.Ytlmcfclonncgbaa
