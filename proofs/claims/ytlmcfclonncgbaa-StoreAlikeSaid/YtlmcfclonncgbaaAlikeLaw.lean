/- A term with other numbers of variables is laid alike: in plain terms. -/
import Derived.Test.YtlmcfclonncgbaaSmallLaw
import Derived.Test.YtlmcfclonncgbaaRVars
namespace Go.Proofs.Ytlmcfclonncgbaa
open Go.RowKit
set_option linter.unusedVariables false
set_option linter.unusedSimpArgs false

/-- Variables renamed. -/
def ren (ρ : Int → Int) : Int → CT := fun n => .var (ρ n)
def renS (ρ : Int → Int) (st : SS) : SS := { st with V := st.V.map (fun p => (ρ p.1, p.2)) }
theorem look_ren {ρ : Int → Int} (hi : ∀ a b, ρ a = ρ b → a = b) : ∀ (V : List (Int × Int)) (n : Int), look (V.map (fun p => (ρ p.1, p.2))) (ρ n) = look V n
  | [], _ => rfl
  | (k, x) :: V, n => by
    have ih := look_ren hi V n
    simp only [List.map_cons, look]
    by_cases h : k = n
    · subst h; simp
    · rw [if_neg (fun e => h (hi _ _ e)), if_neg h]; exact ih
theorem varT_ren {ρ : Int → Int} (hi : ∀ a b, ρ a = ρ b → a = b) (most n own : Int) (st : SS) : varT most (ρ n) own (renS ρ st) = (renS ρ (varT most n own st).1, (varT most n own st).2) := by
  unfold varT
  rw [show look (renS ρ st).V (ρ n) = look st.V n from look_ren hi st.V n]
  cases look st.V n with
  | some c => rfl
  | none =>
    by_cases ho : own < 0
    · by_cases hl : (st.l.length : Int) < most <;> simp [renS, ho, hl]
    · simp [renS, ho]
theorem wordsT_ren (ρ : Int → Int) (most tag : Int) (ws : List Int) (st : SS) : wordsT most tag ws (renS ρ st) = (renS ρ (wordsT most tag ws st).1, (wordsT most tag ws st).2) := by
  unfold wordsT renS
  dsimp only
  split <;> rfl
theorem compT_ren (ρ : Int → Int) (most : Int) (s : ByteArray) (k : Nat) (st : SS) : compT most s k (renS ρ st) = (renS ρ (compT most s k st).1, (compT most s k st).2) := by
  unfold compT renS
  dsimp only
  split
  · rfl
  · split
    · split <;> rfl
    · rfl
mutual
theorem putT_ren {ρ : Int → Int} (hi : ∀ a b, ρ a = ρ b → a = b) (most : Int) : ∀ (t : CT) (own : Int) (st : SS), putT most (subst (ren ρ) t) own (renS ρ st) = (renS ρ (putT most t own st).1, (putT most t own st).2)
  | .var n, own, st => by simp only [subst, ren, putT]; exact varT_ren hi most n own st
  | .atom s, own, st => by simp only [subst, putT, renS]
  | .int n, own, st => by
    simp only [subst, putT]
    split
    · rfl
    · exact wordsT_ren ρ most 4 _ st
  | .cpx re im, own, st => by simp only [subst, putT]; exact wordsT_ren ρ most 5 _ st
  | .comp s args, own, st => by
    simp only [subst, putT]
    rw [substs_length, compT_ren]
    dsimp only
    split
    · rfl
    · rw [putArgs_ren hi most args]
theorem putArgs_ren {ρ : Int → Int} (hi : ∀ a b, ρ a = ρ b → a = b) (most : Int) : ∀ (l : List CT) (p : Nat) (st : SS), putArgs most (substs (ren ρ) l) p (renS ρ st) = (renS ρ (putArgs most l p st).1, (putArgs most l p st).2)
  | [], p, st => rfl
  | a :: rs, p, st => by
    simp only [substs, putArgs]
    rw [putT_ren hi most a]
    dsimp only
    split
    · rfl
    · have := putArgs_ren hi most rs (p + 1) { (putT most a p st).1 with l := (putT most a p st).1.l.set p (putT most a p st).2.1 }
      exact this
end
mutual
theorem nodes_ren (ρ : Int → Int) : ∀ t : CT, nodes (subst (ren ρ) t) = nodes t
  | .var n => rfl
  | .atom s => rfl
  | .int n => rfl
  | .cpx re im => rfl
  | .comp s args => by simp only [subst, nodes]; rw [nodesL_ren ρ args]
theorem nodesL_ren (ρ : Int → Int) : ∀ l : List CT, nodesL (substs (ren ρ) l) = nodesL l
  | [] => rfl
  | t :: ts => by simp only [substs, nodesL]; rw [nodes_ren ρ t, nodesL_ren ρ ts]
end
mutual
theorem depth_ren (ρ : Int → Int) : ∀ t : CT, depth (subst (ren ρ) t) = depth t
  | .var n => rfl
  | .atom s => rfl
  | .int n => rfl
  | .cpx re im => rfl
  | .comp s args => by simp only [subst, depth]; rw [depthL_ren ρ args]
theorem depthL_ren (ρ : Int → Int) : ∀ l : List CT, depthL (substs (ren ρ) l) = depthL l
  | [] => rfl
  | t :: ts => by simp only [substs, depthL]; rw [depth_ren ρ t, depthL_ren ρ ts]
end
mutual
theorem fine_ren {ρ : Int → Int} : ∀ t : CT, (∀ n, occ n t → 0 ≤ ρ n) → fine t → fine (subst (ren ρ) t)
  | .var n, h, _ => h n rfl
  | .atom s, _, h => h
  | .int n, _, _ => trivial
  | .cpx re im, _, _ => trivial
  | .comp s args, h, hf => by
    obtain ⟨h1, h2, h3, h4⟩ := hf
    refine ⟨h1, ?_, ?_, fines_ren args h h4⟩ <;> rw [substs_length] <;> assumption
theorem fines_ren {ρ : Int → Int} : ∀ l : List CT, (∀ n, occs n l → 0 ≤ ρ n) → fines l → fines (substs (ren ρ) l)
  | [], _, _ => trivial
  | t :: ts, h, hf => ⟨fine_ren t (fun n hn => h n (Or.inl hn)) hf.1, fines_ren ts (fun n hn => h n (Or.inr hn)) hf.2⟩
end
mutual
theorem ranged_ren {ρ : Int → Int} : ∀ t : CT, ranged t → ranged (subst (ren ρ) t)
  | .var n, _ => trivial
  | .atom s, h => h
  | .int n, h => h
  | .cpx re im, h => h
  | .comp s args, h => rangeds_ren args h
theorem rangeds_ren {ρ : Int → Int} : ∀ l : List CT, rangeds l → rangeds (substs (ren ρ) l)
  | [], _ => trivial
  | t :: ts, h => ⟨ranged_ren t h.1, rangeds_ren ts h.2⟩
end
mutual
theorem occ_fine : ∀ (t : CT) (n : Int), fine t → occ n t → 0 ≤ n
  | .var m, n, h, ho => by have e : n = m := ho; rw [e]; exact h
  | .atom _, _, _, h => h.elim
  | .int _, _, _, h => h.elim
  | .cpx _ _, _, _, h => h.elim
  | .comp s args, n, h, ho => occs_fine args n h.2.2.2 ho
theorem occs_fine : ∀ (l : List CT) (n : Int), fines l → occs n l → 0 ≤ n
  | [], _, _, h => h.elim
  | t :: ts, n, h, ho => ho.elim (occ_fine t n h.1) (occs_fine ts n h.2)
end
/-- Each variable is met. -/
theorem varsF_occ : ∀ (t : Tm), Kinds t → (∀ (L : List Int) (n : Int), n ∈ L → n ∈ varsF t L) ∧ (∀ (L : List Int) (n : Int), occ n (cl t) → n ∈ varsF t L) := by
  refine Tm.ind ?_
  intro k s n re im args ih hk
  have hk15 : 1 ≤ k ∧ k ≤ 5 := by cases hk <;> omega
  rcases cl_cases k s n re im args hk15.1 hk15.2 with ⟨rfl, e⟩ | ⟨rfl, e⟩ | ⟨rfl, e⟩ | ⟨rfl, e⟩ | ⟨rfl, e⟩
  · rw [e]
    refine ⟨fun L m hm => ?_, fun L m hm => ?_⟩
    · unfold varsF; rw [if_pos rfl]; split
      · exact hm
      · simp [hm]
    · have hm' : m = n := hm
      subst hm'
      unfold varsF; rw [if_pos rfl]; split
      · assumption
      · simp
  · rw [e]; exact ⟨fun L m hm => by unfold varsF; simpa using hm, fun L m hm => hm.elim⟩
  · rw [e]; exact ⟨fun L m hm => by unfold varsF; simpa using hm, fun L m hm => hm.elim⟩
  · rw [e]; exact ⟨fun L m hm => by unfold varsF; simpa using hm, fun L m hm => hm.elim⟩
  · rw [e]
    have hka := kinds_args hk rfl
    have key : ∀ l : List Tm, (∀ a ∈ l, a ∈ args) → (∀ (L : List Int) (m : Int), m ∈ L → m ∈ varsFs l L) ∧ (∀ (L : List Int) (m : Int), occs m (cls l) → m ∈ varsFs l L) := by
      intro l
      induction l with
      | nil => intro _; exact ⟨fun L m hm => hm, fun L m hm => hm.elim⟩
      | cons a l ih2 =>
        intro hl
        have ha : a ∈ args := hl a (by simp)
        obtain ⟨i1, i2⟩ := ih a ha (hka a ha)
        obtain ⟨j1, j2⟩ := ih2 (fun x hx => hl x (by simp [hx]))
        refine ⟨fun L m hm => by rw [varsFs_cons]; exact j1 _ m (i1 L m hm), fun L m hm => ?_⟩
        rw [varsFs_cons]
        rcases hm with hm | hm
        · exact j1 _ m (i2 L m hm)
        · exact j2 _ m hm
    obtain ⟨k1, k2⟩ := key args (fun _ h => h)
    refine ⟨fun L m hm => ?_, fun L m hm => ?_⟩
    · unfold varsF; rw [if_neg (by decide), if_pos rfl]; exact k1 L m hm
    · unfold varsF; rw [if_neg (by decide), if_pos rfl]; exact k2 L m hm
theorem nvF_nodes : ∀ (t : Tm), Kinds t → nvF t ≤ nodes (cl t) := by
  refine Tm.ind ?_
  intro k s n re im args ih hk
  have hk15 : 1 ≤ k ∧ k ≤ 5 := by cases hk <;> omega
  rcases cl_cases k s n re im args hk15.1 hk15.2 with ⟨rfl, e⟩ | ⟨rfl, e⟩ | ⟨rfl, e⟩ | ⟨rfl, e⟩ | ⟨rfl, e⟩
  · rw [e]; unfold nvF; simp [nodes]
  · rw [e]; unfold nvF; simp [nodes]
  · rw [e]; unfold nvF; simp [nodes]
  · rw [e]; unfold nvF; simp [nodes]
  · rw [e]
    have hka := kinds_args hk rfl
    have key : ∀ l : List Tm, (∀ a ∈ l, a ∈ args) → nvFs l ≤ nodesL (cls l) := by
      intro l
      induction l with
      | nil => intro _; exact Nat.le_refl _
      | cons a l ih2 =>
        intro hl
        have ha : a ∈ args := hl a (by simp)
        have h1 := ih a ha (hka a ha)
        have h2 := ih2 (fun x hx => hl x (by simp [hx]))
        rw [nvFs_cons]
        show _ ≤ nodes (cl a) + nodesL (cls l)
        omega
    have h1 := key args (fun _ h => h)
    unfold nvF
    rw [if_neg (by decide), if_pos rfl]
    simp only [nodes]
    omega
/-- The law, in plain terms. -/
theorem alike_law (t : Tm) (by_ : Int) (g : Int → CT) (hm : mayE t = 0) (hr : ranged (cl t)) (hb0 : 0 ≤ by_) (hg : ∀ n, 0 ≤ n → n ≤ 1099511627776 → g n = .var (n + by_)) (hv : ∀ n ∈ varsF t [], n ≤ 1099511627776) :
    mayE (un (subst g (cl t))) = 0 ∧ ∃ l L1 L2 V1 V2 c, putR 1048576 t ⟨[], names0, []⟩ = (⟨l, L1, V1⟩, c, 0) ∧ putR 1048576 (un (subst g (cl t))) ⟨[], names0, []⟩ = (⟨l, L2, V2⟩, c, 0) := by
  obtain ⟨hk, hf, hd, hn⟩ := mayE_zero.1 hm
  have hocc : ∀ n, occ n (cl t) → 0 ≤ n ∧ n ≤ 1099511627776 := fun n ho => ⟨occ_fine _ n hf ho, hv n ((varsF_occ t hk).2 [] n ho)⟩
  have hs : subst g (cl t) = subst (ren (· + by_)) (cl t) := subst_congr _ (fun n ho => hg n (hocc n ho).1 (hocc n ho).2)
  rw [hs]
  have hgood : Good (subst (ren (· + by_)) (cl t)) := by
    refine ⟨fine_ren _ (fun n ho => ?_) hf, ?_, ?_⟩
    · have := (hocc n ho).1; show 0 ≤ n + by_; omega
    · rw [depth_ren]; exact hd
    · rw [nodes_ren]; exact hn
  have hm2 := mayE_un hgood
  refine ⟨hm2, ?_⟩
  obtain ⟨W, E, M, h1, e1⟩ := put0_ok 1048576 t hm hr (by decide)
  obtain ⟨W', E', M', h2, e2⟩ := put0_ok 1048576 (un (subst (ren (· + by_)) (cl t))) hm2 (by rw [cl_un]; exact ranged_ren _ hr) (by decide)
  have e3 := putT_ren (ρ := (· + by_)) (fun a b h => by have h' : a + by_ = b + by_ := h; omega) 1048576 (cl t) (-1) ⟨[], names0, []⟩
  rw [e1, e2, cl_un]
  rw [cl_un] at h2
  have e4 : renS (· + by_) ⟨[], names0, []⟩ = ⟨[], names0, []⟩ := rfl
  rw [e4] at e3
  have he := h1.err
  rw [e3]
  generalize putT 1048576 (cl t) (-1) ⟨[], names0, []⟩ = P at *
  obtain ⟨⟨l, L, V⟩, c, er⟩ := P
  have he' : er = 0 := he
  subst he'
  exact ⟨l, L, L, V, _, c, rfl, rfl⟩

end Go.Proofs.Ytlmcfclonncgbaa
