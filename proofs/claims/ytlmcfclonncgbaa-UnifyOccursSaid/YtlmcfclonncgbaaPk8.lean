/- Texts that stand together: Canon, Canon2, PutBnd, BackLaw, BackLaw2. -/
import Derived.Test.YtlmcfclonncgbaaPk7
import Derived.Test.YtlmcfclonncgbaaPk6
/- A term's variables numbered as they are met: what does not hang on their names. In plain terms. -/
namespace Go.Proofs.Ytlmcfclonncgbaa
open Go.RowKit
set_option linter.unusedVariables false
set_option linter.unusedSimpArgs false

/-- The variables, numbered as they are met. -/
def canon (t : CT) : CT := subst (numG (numV (metT t []) 0)) t
/-- No two of a term's (and of a list's) variables become one. -/
def InjOn (ρ : Int → Int) (S : Int → Prop) : Prop := ∀ a b, S a → S b → ρ a = ρ b → a = b
theorem metP_map {ρ : Int → Int} {P : List Int} {n : Int} (h : InjOn ρ (fun a => a ∈ P ∨ a = n)) : metP (P.map ρ) (ρ n) = (metP P n).map ρ := by
  unfold metP
  by_cases e : n ∈ P
  · rw [if_pos e, if_pos (List.mem_map_of_mem e)]
  · rw [if_neg e, if_neg]
    · simp
    · intro hm
      obtain ⟨a, ha, he⟩ := List.mem_map.1 hm
      exact e (h a n (Or.inl ha) (Or.inr rfl) he ▸ ha)
theorem metP_mem {P : List Int} {n a : Int} (h : a ∈ metP P n) : a ∈ P ∨ a = n := by
  unfold metP at h
  split at h
  · exact Or.inl h
  · simpa using h
mutual
theorem metT_mem : ∀ (t : CT) (P : List Int) (a : Int), a ∈ metT t P → a ∈ P ∨ occ a t
  | .var p, P, a, h => metP_mem h
  | .atom _, P, a, h => Or.inl h
  | .int _, P, a, h => Or.inl h
  | .cpx _ _, P, a, h => Or.inl h
  | .comp _ args, P, a, h => metTs_mem args P a h
theorem metTs_mem : ∀ (l : List CT) (P : List Int) (a : Int), a ∈ metTs l P → a ∈ P ∨ occs a l
  | [], P, a, h => Or.inl h
  | t :: ts, P, a, h => by
    rcases metTs_mem ts _ a h with h | h
    · exact (metT_mem t P a h).elim Or.inl (fun h => Or.inr (Or.inl h))
    · exact Or.inr (Or.inr h)
end
mutual
theorem metT_ren {ρ : Int → Int} : ∀ (t : CT) (P : List Int), InjOn ρ (fun a => a ∈ P ∨ occ a t) → metT (subst (ren ρ) t) (P.map ρ) = (metT t P).map ρ
  | .var p, P, h => metP_map h
  | .atom _, P, h => rfl
  | .int _, P, h => rfl
  | .cpx _ _, P, h => rfl
  | .comp _ args, P, h => metTs_ren args P h
theorem metTs_ren {ρ : Int → Int} : ∀ (l : List CT) (P : List Int), InjOn ρ (fun a => a ∈ P ∨ occs a l) → metTs (substs (ren ρ) l) (P.map ρ) = (metTs l P).map ρ
  | [], P, h => rfl
  | t :: ts, P, h => by
    simp only [substs, metTs]
    have h1 : InjOn ρ (fun a => a ∈ P ∨ occ a t) := fun a b ha hb => h a b (ha.elim Or.inl (fun x => Or.inr (Or.inl x))) (hb.elim Or.inl (fun x => Or.inr (Or.inl x)))
    rw [metT_ren t P h1]
    refine metTs_ren ts _ (fun a b ha hb => h a b ?_ ?_)
    · rcases ha with ha | ha
      · exact (metT_mem t P a ha).elim Or.inl (fun x => Or.inr (Or.inl x))
      · exact Or.inr (Or.inr ha)
    · rcases hb with hb | hb
      · exact (metT_mem t P b hb).elim Or.inl (fun x => Or.inr (Or.inl x))
      · exact Or.inr (Or.inr hb)
end
theorem look_map {ρ : Int → Int} : ∀ (P : List Int) (n i : Int), n ∈ P → InjOn ρ (fun a => a ∈ P) → look (numV (P.map ρ) i) (ρ n) = look (numV P i) n
  | [], n, i, hn, _ => by simp at hn
  | a :: P, n, i, hn, h => by
    simp only [List.map_cons, numV, look]
    by_cases e : a = n
    · subst e; rw [if_pos rfl, if_pos rfl]
    · have e' : ρ a ≠ ρ n := fun h' => e (h a n (by simp) hn h')
      rw [if_neg e, if_neg e']
      exact look_map P n (i + 1) (by simpa [Ne.symm e] using hn) (fun x y hx hy => h x y (by simp [hx]) (by simp [hy]))
theorem inj_met {ρ : Int → Int} {t : CT} (h : InjOn ρ (fun a => occ a t)) : InjOn ρ (fun a => a ∈ ([] : List Int) ∨ occ a t) := fun a b ha hb => h a b (by simpa using ha) (by simpa using hb)
/-- Other names, the same numbers. -/
theorem canon_ren {ρ : Int → Int} (t : CT) (h : InjOn ρ (fun a => occ a t)) : canon (subst (ren ρ) t) = canon t := by
  unfold canon
  have e := metT_ren t [] (inj_met h)
  simp only [List.map_nil] at e
  rw [e, subst_subst]
  refine subst_congr t (fun n hn => ?_)
  show subst _ (.var (ρ n)) = _
  have hm : n ∈ metT t [] := metT_occ t [] n hn
  simp only [subst, numG]
  rw [look_map _ n 0 hm (fun a b ha hb => h a b ((metT_mem t [] a ha).elim (fun x => by simp at x) id) ((metT_mem t [] b hb).elim (fun x => by simp at x) id))]
theorem look_numV_ge : ∀ (P : List Int) (n i m : Int), look (numV P i) n = some m → i ≤ m
  | [], n, i, m, h => by simp [numV, look] at h
  | a :: P, n, i, m, h => by
    simp only [numV, look] at h
    split at h
    · simp at h; omega
    · have := look_numV_ge P n (i + 1) m h; omega
theorem look_numV_inj : ∀ (P : List Int) (a b i m : Int), look (numV P i) a = some m → look (numV P i) b = some m → a = b
  | [], a, b, i, m, h, _ => by simp [numV, look] at h
  | x :: P, a, b, i, m, h, k => by
    simp only [numV, look] at h k
    by_cases e : x = a
    · by_cases e' : x = b
      · exact e.symm.trans e'
      · rw [if_pos e] at h; rw [if_neg e'] at k
        have := look_numV_ge P b (i + 1) m k
        simp at h; omega
    · by_cases e' : x = b
      · rw [if_neg e] at h; rw [if_pos e'] at k
        have := look_numV_ge P a (i + 1) m h
        simp at k; omega
      · rw [if_neg e] at h; rw [if_neg e'] at k
        exact look_numV_inj P a b (i + 1) m h k
theorem look_numV_mem : ∀ (P : List Int) (n i : Int), n ∈ P → ∃ m, look (numV P i) n = some m
  | [], n, i, h => by simp at h
  | a :: P, n, i, h => by
    simp only [numV, look]
    by_cases e : a = n
    · exact ⟨i, by rw [if_pos e]⟩
    · rw [if_neg e]; exact look_numV_mem P n (i + 1) (by simpa [Ne.symm e] using h)
theorem numG_ren (V : List (Int × Int)) : numG V = ren (fun n => (look V n).getD 0) := rfl
theorem num_inj (t : CT) : InjOn (fun n => (look (numV (metT t []) 0) n).getD 0) (fun a => occ a t) := by
  intro a b ha hb h
  obtain ⟨m, hm⟩ := look_numV_mem (metT t []) a 0 (metT_occ t [] a ha)
  obtain ⟨k, hk⟩ := look_numV_mem (metT t []) b 0 (metT_occ t [] b hb)
  simp only [hm, hk, Option.getD_some] at h
  subst h
  exact look_numV_inj _ a b 0 m hm hk
theorem canon_canon (t : CT) : canon (canon t) = canon t := by
  conv => lhs; unfold canon
  have h := canon_ren t (num_inj t)
  rw [← numG_ren] at h
  exact h
theorem canon_as (t : CT) : canon t = subst (ren (fun n => (look (numV (metT t []) 0) n).getD 0)) t := rfl
theorem num_pos (P : List Int) (n : Int) : 0 ≤ (look (numV P 0) n).getD 0 := by
  cases h : look (numV P 0) n with
  | none => simp
  | some m => have := look_numV_ge P n 0 m h; simpa using this
theorem good_ren {ρ : Int → Int} {t : CT} (hp : ∀ n, occ n t → 0 ≤ ρ n) (h : Good t) : Good (subst (ren ρ) t) := by
  obtain ⟨h1, h2, h3⟩ := h
  exact ⟨fine_ren t hp h1, by rw [depth_ren]; exact h2, by rw [nodes_ren]; exact h3⟩
theorem good_canon {t : CT} (h : Good t) : Good (canon t) := by
  rw [canon_as]; exact good_ren (fun n _ => num_pos _ n) h
theorem metP_has {P : List Int} {n : Int} (h : n ∈ P) : metP P n = P := by unfold metP; rw [if_pos h]
mutual
theorem metT_has : ∀ (t : CT) (P : List Int), (∀ n, occ n t → n ∈ P) → metT t P = P
  | .var p, P, h => metP_has (h p rfl)
  | .atom _, P, h => rfl
  | .int _, P, h => rfl
  | .cpx _ _, P, h => rfl
  | .comp _ args, P, h => metTs_has args P h
theorem metTs_has : ∀ (l : List CT) (P : List Int), (∀ n, occs n l → n ∈ P) → metTs l P = P
  | [], P, h => rfl
  | t :: ts, P, h => by
    simp only [metTs]
    rw [metT_has t P (fun n hn => h n (Or.inl hn))]
    exact metTs_has ts P (fun n hn => h n (Or.inr hn))
end
theorem metT_twice (t : CT) : metT t (metT t []) = metT t [] := metT_has t _ (fun n hn => metT_occ t [] n hn)
/-- What Put keeps: the variables that were met, in order. -/
theorem varT_keys {most n own : Int} {st : SS} (h : (varT most n own st).2.2 = 0) : (varT most n own st).1.V.map (·.1) = metP (st.V.map (·.1)) n := by
  unfold varT at h ⊢
  cases e : look st.V n with
  | some c =>
    rw [metP_has]
    have : ∀ V : List (Int × Int), look V n = some c → n ∈ V.map (·.1) := by
      intro V
      induction V with
      | nil => intro h; simp [look] at h
      | cons a V ih =>
        obtain ⟨k, x⟩ := a
        intro h
        simp only [look] at h
        split at h
        · simp; left; omega
        · simp; right; simpa using ih h
    exact this _ e
  | none =>
    have : ∀ V : List (Int × Int), look V n = none → n ∉ V.map (·.1) := by
      intro V
      induction V with
      | nil => intro _; simp
      | cons a V ih =>
        obtain ⟨k, x⟩ := a
        intro h
        simp only [look] at h
        split at h
        · simp at h
        · rename_i hk
          simp only [List.map_cons, List.mem_cons, not_or]
          exact ⟨fun e => hk e.symm, ih h⟩
    have hn := this _ e
    simp only [e] at h ⊢
    unfold metP
    rw [if_neg hn]
    by_cases ho : own < 0
    · by_cases hr : (st.l.length : Int) < most
      · rw [if_pos ho, if_pos hr]; simp
      · rw [if_pos ho, if_neg hr] at h; exact absurd h (by simp)
    · rw [if_neg ho]; simp
end Go.Proofs.Ytlmcfclonncgbaa
/- What Put keeps of variables and names; what is laid is told. In plain terms. -/
namespace Go.Proofs.Ytlmcfclonncgbaa
open Go.RowKit
set_option linter.unusedVariables false
set_option linter.unusedSimpArgs false

theorem wordsT_VL (most tag : Int) (ws : List Int) (st : SS) : (wordsT most tag ws st).1.V = st.V ∧ (wordsT most tag ws st).1.L = st.L := by
  unfold wordsT; split <;> exact ⟨rfl, rfl⟩
theorem compT_VL (most : Int) (s : ByteArray) (k : Nat) (st : SS) : (compT most s k st).1.V = st.V := by
  unfold compT; split
  · rfl
  · split <;> rfl
mutual
theorem putT_keys (most : Int) : ∀ (t : CT) (own : Int) (st : SS), (putT most t own st).2.2 = 0 → (putT most t own st).1.V.map (·.1) = metT t (st.V.map (·.1))
  | .var n, own, st, h => varT_keys h
  | .atom s, own, st, h => rfl
  | .int n, own, st, h => by
    simp only [putT]; split
    · rfl
    · rw [(wordsT_VL most 4 _ st).1]; rfl
  | .cpx re im, own, st, h => by simp only [putT]; rw [(wordsT_VL most 5 _ st).1]; rfl
  | .comp s args, own, st, h => by
    simp only [putT] at h ⊢
    by_cases e : (compT most s args.length st).2.2 ≠ 0
    · rw [if_pos e] at h; exact absurd h e
    · rw [if_neg e] at h ⊢
      have z := putArgs_keys most args _ _ h
      rw [compT_VL] at z
      exact z
theorem putArgs_keys (most : Int) : ∀ (l : List CT) (p : Nat) (st : SS), (putArgs most l p st).2 = 0 → (putArgs most l p st).1.V.map (·.1) = metTs l (st.V.map (·.1))
  | [], p, st, _ => rfl
  | a :: rs, p, st, h => by
    simp only [putArgs] at h ⊢
    by_cases e : (putT most a p st).2.2 ≠ 0
    · rw [if_pos e] at h; exact absurd h e
    · rw [if_neg e] at h ⊢
      have z := putArgs_keys most rs _ _ h
      rw [z]
      simp only [metTs]
      rw [← putT_keys most a p st (by simpa using e)]
end
mutual
/-- The names of a term. -/
def has (L : List ByteArray) : CT → Prop
  | .var _ => True
  | .atom s => memB L s = true
  | .int _ => True
  | .cpx _ _ => True
  | .comp s args => memB L s = true ∧ hass L args
def hass (L : List ByteArray) : List CT → Prop
  | [] => True
  | t :: ts => has L t ∧ hass L ts
end
theorem numL_has {L : List ByteArray} {s : ByteArray} (h : memB L s = true) : numL L s = L := by
  unfold numL
  rw [h]; simp
mutual
theorem putT_same (most : Int) : ∀ (t : CT) (own : Int) (st : SS), has st.L t → (putT most t own st).1.L = st.L
  | .var n, own, st, h => by
    simp only [putT, varT]; split
    · rfl
    · split
      · split <;> rfl
      · rfl
  | .atom s, own, st, h => numL_has h
  | .int n, own, st, h => by
    simp only [putT]; split
    · rfl
    · exact (wordsT_VL most 4 _ st).2
  | .cpx re im, own, st, h => by simp only [putT]; exact (wordsT_VL most 5 _ st).2
  | .comp s args, own, st, h => by
    simp only [putT]
    have hc : (compT most s args.length st).1.L = st.L := by
      unfold compT; split
      · rfl
      · split <;> exact numL_has h.1
    split
    · exact hc
    · have z := putArgs_same most args ((compT most s args.length st).2.1 + 1) (compT most s args.length st).1 (by rw [hc]; exact h.2)
      rw [← hc]; exact z
theorem putArgs_same (most : Int) : ∀ (l : List CT) (p : Nat) (st : SS), hass st.L l → (putArgs most l p st).1.L = st.L
  | [], p, st, _ => rfl
  | a :: rs, p, st, h => by
    simp only [putArgs]
    have h1 := putT_same most a p st h.1
    split
    · exact h1
    · have z := putArgs_same most rs (p + 1) { (putT most a p st).1 with l := (putT most a p st).1.l.set p (putT most a p st).2.1 } (by show hass (putT most a p st).1.L rs; rw [h1]; exact h.2)
      rw [z]; exact h1
end
theorem memB_of_get {L : List ByteArray} {i : Nat} {s : ByteArray} (h : L[i]? = some s) : memB L s = true := by
  exact memB_iff.2 (List.mem_of_getElem? h)
mutual
theorem rep_has {W : Nat → Prop} {l : List Int} {L : List ByteArray} : ∀ (t : CT) (c : Int), rep W l L t c → has L t
  | .var _, _, _ => trivial
  | .atom s, c, h => by obtain ⟨i, h1, _⟩ := h; exact memB_of_get h1
  | .int _, _, _ => trivial
  | .cpx _ _, _, _ => trivial
  | .comp s args, c, h => by obtain ⟨p, i, _, _, _, h4, _, h6⟩ := h; exact ⟨memB_of_get h4, reps_has args (p + 1) h6⟩
theorem reps_has {W : Nat → Prop} {l : List Int} {L : List ByteArray} : ∀ (ts : List CT) (q : Nat), reps W l L ts q → hass L ts
  | [], _, _ => trivial
  | t :: ts, q, h => ⟨rep_has t _ h.2.1, reps_has ts (q + 1) h.2.2⟩
end
mutual
theorem has_ren {L : List ByteArray} (ρ : Int → Int) : ∀ t : CT, has L (subst (ren ρ) t) ↔ has L t
  | .var _ => Iff.rfl
  | .atom _ => Iff.rfl
  | .int _ => Iff.rfl
  | .cpx _ _ => Iff.rfl
  | .comp s args => and_congr Iff.rfl (hass_ren ρ args)
theorem hass_ren {L : List ByteArray} (ρ : Int → Int) : ∀ l : List CT, hass L (substs (ren ρ) l) ↔ hass L l
  | [] => Iff.rfl
  | t :: ts => and_congr (has_ren ρ t) (hass_ren ρ ts)
end
/-- What is told of a cell that stands for a term with other names. -/
theorem told {W : Nat → Prop} {l : List Int} {L : List ByteArray} (hl : Pos l) (hL : L.length ≤ 4096) {t : CT} {ρ : Int → Int} {c : Int} (h : rep W l L (subst (ren ρ) t) c) (hc : 0 ≤ c) (hg : Good t) (hp : ∀ n, occ n t → 0 ≤ ρ n) (hi : InjOn ρ (fun a => occ a t)) :
    getF l L 500 c 0 [] = (0, canon t, nodes t, (metT t []).map ρ) := by
  have hg' := good_ren hp hg
  have z := getF_rep hl hL (subst (ren ρ) t) c 500 0 [] h hc hg'.1 hg'.2.1 (by have := hg'.2.2; omega)
  rw [z]
  have e := metT_ren t [] (inj_met hi)
  simp only [List.map_nil] at e
  have hcn := canon_ren t hi
  unfold canon at hcn
  rw [hcn, e, nodes_ren, Nat.zero_add]
  rfl
/-- Told again with the places that were met. -/
theorem told_again {W : Nat → Prop} {l : List Int} {L : List ByteArray} (hl : Pos l) (hL : L.length ≤ 4096) {t : CT} {ρ : Int → Int} {c : Int} (h : rep W l L (subst (ren ρ) t) c) (hc : 0 ≤ c) (hg : Good t) (hp : ∀ n, occ n t → 0 ≤ ρ n) (hi : InjOn ρ (fun a => occ a t)) :
    getF l L 500 c 0 ((metT t []).map ρ) = (0, canon t, nodes t, (metT t []).map ρ) := by
  have hg' := good_ren hp hg
  have z := getF_rep hl hL (subst (ren ρ) t) c 500 0 ((metT t []).map ρ) h hc hg'.1 hg'.2.1 (by have := hg'.2.2; omega)
  rw [z]
  have e := metT_ren t [] (inj_met hi)
  simp only [List.map_nil] at e
  have e2 := metT_twice (subst (ren ρ) t)
  rw [e] at e2
  rw [e2]
  have hcn := canon_ren t hi
  unfold canon at hcn
  rw [e] at hcn
  rw [hcn, nodes_ren, Nat.zero_add]
  rfl
/-- What Put tells of variables, of no map: names that are apart. -/
theorem step_ren {W W' : Nat → Prop} {E E' : Int → CT} {V' : List (Int × Int)} {n0 : Nat} {t : CT} (h : Step W W' E E' [] V' n0 (fun n => occ n t)) :
    ∃ ρ : Int → Int, subst E' t = subst (ren ρ) t ∧ (∀ n, occ n t → 0 ≤ ρ n ∧ E' n = .var (ρ n)) ∧ InjOn ρ (fun a => occ a t) := by
  have key : ∀ n, occ n t → ∃ q : Nat, E' n = .var q ∧ ∀ m, m ≠ n → occ m t → ¬ occ q (E' m) := fun n hn => by
    obtain ⟨c, hc⟩ := h.met n hn
    obtain ⟨_, q, h1, h2⟩ := h.new n c rfl hc
    refine ⟨q, h1, fun m hm ho => ?_⟩
    obtain ⟨d, hd⟩ := h.met m ho
    exact h2 m d hm hd
  refine ⟨fun n => match E' n with | .var q => q | _ => 0, ?_, ?_, ?_⟩
  · refine subst_congr t (fun n hn => ?_)
    obtain ⟨q, h1, _⟩ := key n hn
    simp only [ren, h1]
  · intro n hn
    obtain ⟨q, h1, _⟩ := key n hn
    simp only [h1]
    exact ⟨by omega, trivial⟩
  · intro a b ha hb e
    obtain ⟨q, h1, h2⟩ := key a ha
    obtain ⟨r, k1, k2⟩ := key b hb
    simp only [h1, k1] at e
    by_cases hab : a = b
    · exact hab
    · refine absurd ?_ (h2 b (Ne.symm hab) hb)
      rw [k1, ← e]; rfl
end Go.Proofs.Ytlmcfclonncgbaa
/- What Put lays are words. In plain terms. -/
namespace Go.Proofs.Ytlmcfclonncgbaa
open Go.RowKit
set_option linter.unusedVariables false
set_option linter.unusedSimpArgs false

def U64 (x : Int) : Prop := 0 ≤ x ∧ x < 18446744073709551616
structure Bnd (st : SS) : Prop where
  l : ∀ x ∈ st.l, U64 x
  V : ∀ n c, look st.V n = some c → U64 c
  few : st.l.length ≤ 1048576
  names : st.L.length ≤ 4096
theorem words_app {l m : List Int} (h : ∀ x ∈ l, U64 x) (k : ∀ x ∈ m, U64 x) : ∀ x ∈ l ++ m, U64 x := fun x hx => (List.mem_append.1 hx).elim (h x) (k x)
theorem look_app : ∀ (V : List (Int × Int)) (n c m d : Int), look (V ++ [(n, c)]) m = some d → look V m = some d ∨ d = c
  | [], n, c, m, d, h => by
    simp only [List.nil_append, look] at h
    split at h
    · right; simpa using h.symm
    · simp at h
  | (a, x) :: V, n, c, m, d, h => by
    simp only [List.cons_append, look] at h ⊢
    split at h
    · rename_i e; left; rw [if_pos e]; exact h
    · rename_i e; rw [if_neg e]; exact look_app V n c m d h
theorem pushWs_bnd {most : Int} (hm : most ≤ 1048576) : ∀ (ws l : List Int), (∀ x ∈ l, U64 x) → (∀ x ∈ ws, U64 x) → l.length ≤ 1048576 → (∀ x ∈ (pushWs most l ws).1, U64 x) ∧ (pushWs most l ws).1.length ≤ 1048576
  | [], l, h, _, hl => by unfold pushWs; exact ⟨h, hl⟩
  | w :: ws, l, h, hw, hl => by
    unfold pushWs
    split
    · refine pushWs_bnd hm ws _ (words_app h (fun x hx => ?_)) (fun x hx => hw x (by simp [hx])) (by simp; omega)
      simp at hx; subst hx; exact hw x (by simp)
    · exact ⟨h, hl⟩
theorem pushRs_bnd {most : Int} (hm : most ≤ 1048576) : ∀ (k : Nat) (l : List Int), (∀ x ∈ l, U64 x) → l.length ≤ 1048576 → (∀ x ∈ (pushRs most l k).1, U64 x) ∧ (pushRs most l k).1.length ≤ 1048576
  | 0, l, h, hl => by unfold pushRs; exact ⟨h, hl⟩
  | k + 1, l, h, hl => by
    unfold pushRs
    split
    · refine pushRs_bnd hm k _ (words_app h (fun x hx => ?_)) (by simp; omega)
      simp at hx; subst hx; unfold U64; omega
    · exact ⟨h, hl⟩
theorem numL_few {L : List ByteArray} (s : ByteArray) (h : L.length ≤ 4096) : (numL L s).length ≤ 4096 := by
  unfold numL
  split
  · exact h
  · split
    · exact h
    · split
      · exact h
      · simp; omega
theorem numN_few {L : List ByteArray} (s : ByteArray) (h : L.length ≤ 4096) : 0 ≤ numN L s ∧ numN L s ≤ 4096 := by
  unfold numN
  split
  · omega
  · split
    · have := idxL_le L s; omega
    · split <;> omega
theorem wordsT_bnd {most tag : Int} (hm : most ≤ 1048576) (ht : 0 ≤ tag ∧ tag < 8) {ws : List Int} (hw : ∀ x ∈ ws, U64 x) {st : SS} (h : Bnd st) : Bnd (wordsT most tag ws st).1 ∧ U64 (wordsT most tag ws st).2.1 := by
  obtain ⟨h1, h2, h3, h4⟩ := h
  obtain ⟨a, b⟩ := pushWs_bnd hm ws st.l h1 hw h3
  unfold wordsT
  split
  · exact ⟨⟨a, h2, b, h4⟩, by unfold U64; dsimp only; omega⟩
  · exact ⟨⟨a, h2, b, h4⟩, by unfold U64; dsimp only; omega⟩
theorem compT_bnd {most : Int} (hm : most ≤ 1048576) (s : ByteArray) {k : Nat} (hk : k ≤ 255) {st : SS} (h : Bnd st) : Bnd (compT most s k st).1 ∧ (compT most s k st).2.1 ≤ 1048576 := by
  obtain ⟨h1, h2, h3, h4⟩ := h
  have hn := numN_few s h4
  unfold compT
  split
  · exact ⟨⟨h1, h2, h3, h4⟩, by dsimp only; omega⟩
  · split
    · obtain ⟨a, b⟩ := pushRs_bnd hm k (st.l ++ [funC (numN st.L s).toNat k]) (words_app h1 (fun x hx => by simp at hx; subst hx; unfold U64 funC; omega)) (by simp; omega)
      exact ⟨⟨a, h2, b, numL_few s h4⟩, h3⟩
    · exact ⟨⟨h1, h2, h3, numL_few s h4⟩, by dsimp only; omega⟩
theorem u64_U (n : Int) : U64 (u64 n) := by unfold U64 u64; omega
mutual
theorem putT_bnd {most : Int} (hm : most ≤ 1048576) : ∀ (t : CT) (own : Int) (st : SS), fine t → ranged t → own ≤ 1100000 → Bnd st → Bnd (putT most t own st).1 ∧ U64 (putT most t own st).2.1
  | .var n, own, st, hf, hr, ho, h => by
    simp only [putT, varT]
    cases e : look st.V n with
    | some c => exact ⟨h, h.V n c e⟩
    | none =>
      obtain ⟨h1, h2, h3, h4⟩ := h
      dsimp only
      split
      · split
        · have hu : U64 ((st.l.length : Int) * 8) := by unfold U64; omega
          refine ⟨⟨words_app h1 (fun x hx => by simp at hx; subst hx; exact hu), fun m d hd => ?_, by simp; omega, h4⟩, hu⟩
          rcases look_app _ _ _ _ _ hd with hd | rfl
          · exact h2 m d hd
          · exact hu
        · exact ⟨⟨h1, h2, h3, h4⟩, by unfold U64; dsimp only; omega⟩
      · have hu : U64 (own * 8) := by unfold U64; omega
        refine ⟨⟨h1, fun m d hd => ?_, h3, h4⟩, hu⟩
        rcases look_app _ _ _ _ _ hd with hd | rfl
        · exact h2 m d hd
        · exact hu
  | .atom s, own, st, hf, hr, ho, h => by
    have hn := numN_few s h.names
    exact ⟨⟨h.l, h.V, h.few, numL_few s h.names⟩, by simp only [putT]; unfold U64; omega⟩
  | .int n, own, st, hf, hr, ho, h => by
    simp only [putT]
    split
    · exact ⟨h, by unfold U64 smallC; dsimp only; omega⟩
    · exact wordsT_bnd hm (by decide) (fun x hx => by simp at hx; subst hx; exact u64_U n) h
  | .cpx re im, own, st, hf, hr, ho, h => by
    simp only [putT]
    exact wordsT_bnd hm (by decide) (fun x hx => by
      have hr' : 0 ≤ re ∧ 0 ≤ im ∧ re < 18446744073709551616 ∧ im < 18446744073709551616 := hr
      simp at hx; unfold U64; rcases hx with rfl | rfl <;> omega) h
  | .comp s args, own, st, hf, hr, ho, h => by
    obtain ⟨f1, f2, f3, f4⟩ := hf
    obtain ⟨a, b⟩ := compT_bnd hm s (k := args.length) (by omega) h
    simp only [putT]
    split
    · exact ⟨a, by unfold U64; dsimp only; omega⟩
    · exact ⟨putArgs_bnd hm args _ _ f4 hr (by omega) a, by unfold U64; dsimp only; omega⟩
theorem putArgs_bnd {most : Int} (hm : most ≤ 1048576) : ∀ (l : List CT) (p : Nat) (st : SS), fines l → rangeds l → p + l.length ≤ 1100000 → Bnd st → Bnd (putArgs most l p st).1
  | [], p, st, _, _, _, h => h
  | a :: rs, p, st, hf, hr, hp, h => by
    simp only [List.length_cons] at hp
    obtain ⟨c, d⟩ := putT_bnd hm a p st hf.1 hr.1 (by omega) h
    simp only [putArgs]
    split
    · exact c
    · refine putArgs_bnd hm rs (p + 1) _ hf.2 hr.2 (by omega) ⟨fun x hx => ?_, c.V, by simp only [List.length_set]; exact c.few, c.names⟩
      rcases List.mem_or_eq_of_mem_set hx with hx | hx
      · exact c.l x hx
      · rw [hx]; exact d
end
end Go.Proofs.Ytlmcfclonncgbaa
/- What is laid is told, alone and behind others: in plain terms. -/
namespace Go.Proofs.Ytlmcfclonncgbaa
open Go.RowKit
set_option linter.unusedVariables false
set_option linter.unusedSimpArgs false

/-- What one Put makes, of no map. -/
structure Fresh (t : CT) (l : List Int) (L : List ByteArray) (W : Nat → Prop) (r : SS × Int × Int) (W' : Nat → Prop) (E' : Int → CT) (ρ : Int → Int) : Prop where
  err : r.2.2 = 0
  ext : ∃ m M, r.1.l = l ++ m ∧ r.1.L = L ++ M ∧ m.length ≤ 6001 ∧ M.length ≤ 2000
  raw : ∀ p, p < l.length → (W' p ↔ W p)
  inv : Inv W' E' (fun _ => False) r.1
  pos : 0 ≤ r.2.1
  rep : rep W' r.1.l r.1.L (subst (ren ρ) t) r.2.1
  var : ∀ n, occ n t → 0 ≤ ρ n ∧ E' n = .var (ρ n)
  inj : InjOn ρ (fun a => occ a t)
  keys : r.1.V.map (·.1) = metT t []
  bnd : Bnd r.1 ∧ U64 r.2.1
theorem inv_reset {W : Nat → Prop} {E : Int → CT} {st : SS} (h : Inv W E (fun _ => False) st) : Inv W E (fun _ => False) ⟨st.l, st.L, []⟩ :=
  ⟨h.pos, h.names, fun p hp => hp.elim, fun n c hc => by simp [look] at hc, fun n c hc => by simp [look] at hc⟩
theorem bnd_reset {st : SS} (h : Bnd st) : Bnd ⟨st.l, st.L, []⟩ := ⟨h.l, fun n c hc => by simp [look] at hc, h.few, h.names⟩
theorem topv_1 (V : List (Int × Int)) (t : CT) : topv V t ≤ 1 := by cases t <;> simp [topv]; split <;> omega
theorem inv_end {W : Nat → Prop} {E : Int → CT} {P : Nat → Prop} {own : Int} {st : SS} (h : Inv W E (fun p => P p ∧ (p : Int) ≠ own) st) (hP : ∀ p, ¬ P p) : Inv W E (fun _ => False) st := h.fewer (fun p hp => hp.elim)
theorem put_fresh {t : CT} (hg : Good t) (hr : ranged t) {l : List Int} {L : List ByteArray} {W : Nat → Prop} {E : Int → CT} (hI : Inv W E (fun _ => False) ⟨l, L, []⟩) (hb : Bnd ⟨l, L, []⟩) (hl : l.length ≤ 100000) (hL : L.length ≤ 2096) :
    ∃ W' E' ρ, Fresh t l L W (putT 1048576 t (-1) ⟨l, L, []⟩) W' E' ρ := by
  have h1 := size_le t
  have h2 := topv_1 [] t
  have h3 := hg.2.2
  obtain ⟨W', E', m, M, h⟩ := putT_ok 1048576 t (-1) ⟨l, L, []⟩ _ _ _ hI hg.1 hr (fun p hp => by omega) (by dsimp only; split <;> omega) (by dsimp only; omega)
  obtain ⟨ρ, a, b, c⟩ := step_ren h.step
  refine ⟨W', E', ρ, h.err, ⟨m, M, h.l, h.L, ?_, ?_⟩, h.step.raw, inv_end h.inv (fun _ hp => hp), h.pos, by have := h.rep; rw [a] at this; exact this, b, c, ?_, putT_bnd (by decide) t (-1) _ hg.1 hr (by decide) hb⟩
  · have := h.len; rw [if_pos (by decide)] at this; dsimp only at this; omega
  · have := h.few; omega
  · have := putT_keys 1048576 t (-1) ⟨l, L, []⟩ h.err
    exact this
theorem look_key : ∀ (V : List (Int × Int)) (n : Int), n ∈ V.map (·.1) → ∃ c, look V n = some c
  | [], n, h => by simp at h
  | (k, x) :: V, n, h => by
    simp only [look]
    by_cases e : k = n
    · exact ⟨x, by rw [if_pos e]⟩
    · rw [if_neg e]
      simp only [List.map_cons, List.mem_cons] at h
      exact look_key V n (h.elim (fun h => absurd h.symm e) id)
/-- Laid once more with the same map. -/
theorem put_again {t : CT} (hg : Good t) (hr : ranged t) {l : List Int} {L : List ByteArray} {W W' : Nat → Prop} {E' : Int → CT} {ρ : Int → Int} {r : SS × Int × Int} (h : Fresh t l L W r W' E' ρ) (hl : r.1.l.length ≤ 200000) (hL : r.1.L.length ≤ 2096) :
    ∃ W'', (putT 1048576 t (-1) r.1).2.2 = 0 ∧ rep W'' (putT 1048576 t (-1) r.1).1.l (putT 1048576 t (-1) r.1).1.L (subst (ren ρ) t) (putT 1048576 t (-1) r.1).2.1 ∧ rep W'' (putT 1048576 t (-1) r.1).1.l (putT 1048576 t (-1) r.1).1.L (subst (ren ρ) t) r.2.1 ∧
      0 ≤ (putT 1048576 t (-1) r.1).2.1 ∧ (putT 1048576 t (-1) r.1).1.V.map (·.1) = metT t [] ∧ Bnd (putT 1048576 t (-1) r.1).1 ∧ U64 (putT 1048576 t (-1) r.1).2.1 ∧ Pos (putT 1048576 t (-1) r.1).1.l := by
  have h1 := size_le t
  have h2 := topv_1 r.1.V t
  have h3 := hg.2.2
  obtain ⟨W'', E'', m, M, k⟩ := putT_ok 1048576 t (-1) r.1 _ _ _ h.inv hg.1 hr (fun p hp => by omega) (by split <;> omega) (by omega)
  have hE : subst E'' t = subst (ren ρ) t := subst_congr t (fun n hn => by
    obtain ⟨c, hc⟩ := look_key r.1.V n (by rw [h.keys]; exact metT_occ t [] n hn)
    rw [(k.step.old n c hc).2, (h.var n hn).2]; rfl)
  have hrep := k.rep
  rw [hE] at hrep
  have hg2 := rep_grow (m := m) (M := M) h.inv.pos k.step.raw _ _ h.pos h.rep
  rw [← k.l, ← k.L] at hg2
  have hk := putT_keys 1048576 t (-1) r.1 k.err
  rw [h.keys, metT_twice] at hk
  obtain ⟨b1, b2⟩ := putT_bnd (by decide : (1048576 : Int) ≤ 1048576) t (-1) r.1 hg.1 hr (by decide) h.bnd.1
  exact ⟨W'', k.err, hrep, hg2, k.pos, hk, b1, b2, k.inv.pos⟩
theorem inv_none {l : List Int} {L : List ByteArray} (W : Nat → Prop) (hl : Pos l) (hL : Names L) : Inv W (fun n => .var n) (fun _ => False) ⟨l, L, []⟩ :=
  ⟨hl, hL, fun p hp => hp.elim, fun n c hc => by simp [look] at hc, fun n c hc => by simp [look] at hc⟩
theorem bnd_none : Bnd ⟨[], names0, []⟩ := ⟨by simp, fun n c hc => by simp [look] at hc, by simp, by decide⟩
mutual
theorem metT_len : ∀ (t : CT) (P : List Int), (metT t P).length ≤ P.length + nodes t
  | .var p, P => by simp only [metT, nodes, metP]; split <;> simp
  | .atom _, P => by simp only [metT, nodes]; omega
  | .int _, P => by simp only [metT, nodes]; omega
  | .cpx _ _, P => by simp only [metT, nodes]; omega
  | .comp _ args, P => by simp only [metT, nodes]; have := metTs_len args P; omega
theorem metTs_len : ∀ (l : List CT) (P : List Int), (metTs l P).length ≤ P.length + nodesL l
  | [], P => by simp only [metTs, nodesL]; omega
  | t :: ts, P => by simp only [metTs, nodesL]; have := metT_len t P; have := metTs_len ts (metT t P); omega
end
/-- A term behind another: both are told as they are alone. -/
theorem two_plain {s t : CT} (hs : Good s) (ht : Good t) (rs : ranged s) (rt : ranged t) (hN : Names names0) :
    (putT 1048576 s (-1) ⟨[], names0, []⟩).2.2 = 0 ∧ (putT 1048576 t (-1) ⟨(putT 1048576 s (-1) ⟨[], names0, []⟩).1.l, (putT 1048576 s (-1) ⟨[], names0, []⟩).1.L, []⟩).2.2 = 0 ∧
    ∀ r q, putT 1048576 s (-1) ⟨[], names0, []⟩ = r → putT 1048576 t (-1) ⟨r.1.l, r.1.L, []⟩ = q →
      (∃ n P, getF q.1.l q.1.L 500 r.2.1 0 [] = (0, canon s, n, P)) ∧ (∃ n P, getF q.1.l q.1.L 500 q.2.1 0 [] = (0, canon t, n, P)) ∧ Bnd r.1 ∧ Bnd q.1 ∧ U64 r.2.1 ∧ U64 q.2.1 := by
  obtain ⟨W1, E1, ρ1, h⟩ := put_fresh hs rs (inv_none (fun _ => False) (l := []) (fun x hx => by simp at hx) hN) bnd_none (by simp) (by decide)
  obtain ⟨m, M, e1, e2, e3, e4⟩ := h.ext
  have hl1 : (putT 1048576 s (-1) ⟨[], names0, []⟩).1.l.length ≤ 6001 := by rw [e1]; simpa using e3
  have hL1 : (putT 1048576 s (-1) ⟨[], names0, []⟩).1.L.length ≤ 2002 := by rw [e2]; simp only [List.length_append]; have : names0.length = 2 := rfl; omega
  obtain ⟨W2, E2, ρ2, k⟩ := put_fresh ht rt (inv_reset h.inv) (bnd_reset h.bnd.1) (by omega) (by omega)
  refine ⟨h.err, k.err, ?_⟩
  rintro r q rfl rfl
  obtain ⟨m2, M2, f1, f2, f3, f4⟩ := k.ext
  have hg2 := rep_grow (m := m2) (M := M2) h.inv.pos k.raw _ _ h.pos h.rep
  rw [← f1, ← f2] at hg2
  exact ⟨⟨_, _, told k.inv.pos k.bnd.1.names hg2 h.pos hs (fun n hn => (h.var n hn).1) h.inj⟩, ⟨_, _, told k.inv.pos k.bnd.1.names k.rep k.pos ht (fun n hn => (k.var n hn).1) k.inj⟩, h.bnd.1, k.bnd.1, h.bnd.2, k.bnd.2⟩
/-- What is laid is told; laid twice with the same variables, both are one. -/
theorem back_plain {t : CT} (ht : Good t) (rt : ranged t) (hN : Names names0) : ∀ r1 r2 r3, putT 1048576 t (-1) ⟨[], names0, []⟩ = r1 → putT 1048576 t (-1) ⟨r1.1.l, r1.1.L, []⟩ = r2 → putT 1048576 t (-1) r2.1 = r3 →
    r1.2.2 = 0 ∧ r2.2.2 = 0 ∧ r3.2.2 = 0 ∧ (∃ n P, getF r1.1.l r1.1.L 500 r1.2.1 0 [] = (0, canon t, n, P)) ∧
    (∃ n P, getF r3.1.l r3.1.L 500 r2.2.1 0 [] = (0, canon t, n, P) ∧ getF r3.1.l r3.1.L 500 r3.2.1 0 P = (0, canon t, n, P) ∧ P.length = r3.1.V.length ∧ P.length ≤ 2000) ∧
    r3.1.V.map (·.1) = metT t [] ∧ Bnd r1.1 ∧ Bnd r2.1 ∧ Bnd r3.1 ∧ U64 r1.2.1 ∧ U64 r2.2.1 ∧ U64 r3.2.1 := by
  intro r1 r2 r3 h1 h2 h3
  obtain ⟨W1, E1, ρ1, h⟩ := put_fresh ht rt (inv_none (fun _ => False) (l := []) (fun x hx => by simp at hx) hN) bnd_none (by simp) (by decide)
  rw [h1] at h
  obtain ⟨m, M, e1, e2, e3, e4⟩ := h.ext
  have hl1 : r1.1.l.length ≤ 6001 := by rw [e1]; simpa using e3
  have hL1 : r1.1.L.length ≤ 2002 := by rw [e2]; simp only [List.length_append]; have : names0.length = 2 := rfl; omega
  obtain ⟨W2, E2, ρ2, k⟩ := put_fresh ht rt (inv_reset h.inv) (bnd_reset h.bnd.1) (by omega) (by omega)
  have hsame : (putT 1048576 t (-1) ⟨r1.1.l, r1.1.L, []⟩).1.L = r1.1.L := putT_same 1048576 t (-1) ⟨r1.1.l, r1.1.L, []⟩ ((has_ren ρ1 t).1 (rep_has _ _ h.rep))
  rw [h2] at k hsame
  obtain ⟨m2, M2, f1, f2, f3, f4⟩ := k.ext
  have hl2 : r2.1.l.length ≤ 12002 := by rw [f1, List.length_append]; omega
  obtain ⟨W3, g1, g2, g3, g4, g5, g6, g7, g8⟩ := put_again ht rt k (by omega) (by rw [hsame]; omega)
  rw [h3] at g1 g2 g3 g4 g5 g6 g7 g8
  have hml : (metT t []).length ≤ 2000 := by
    have : ∀ (t : CT) (P : List Int), (metT t P).length ≤ P.length + nodes t := by
      intro t; exact metT_len t
    have := this t []
    have := ht.2.2
    simp at *; omega
  refine ⟨h.err, k.err, g1, ⟨_, _, told h.inv.pos h.bnd.1.names h.rep h.pos ht (fun n hn => (h.var n hn).1) h.inj⟩, ⟨_, _, told g8 g6.names g3 k.pos ht (fun n hn => (k.var n hn).1) k.inj, told_again g8 g6.names g2 g4 ht (fun n hn => (k.var n hn).1) k.inj, ?_, by simpa using hml⟩, g5, h.bnd.1, k.bnd.1, g6, h.bnd.2, k.bnd.2, g7⟩
  have := congrArg List.length g5
  simp only [List.length_map] at this ⊢
  omega
end Go.Proofs.Ytlmcfclonncgbaa
/- What is laid is told, in the walks' own words. -/
namespace Go.Proofs.Ytlmcfclonncgbaa
open Go.RowKit
set_option linter.unusedVariables false
set_option linter.unusedSimpArgs false

theorem varsF_met : ∀ (t : Tm), Kinds t → ∀ (L : List Int), varsF t L = metT (cl t) L := by
  refine Tm.ind ?_
  intro k s n re im args ih hk L
  have hk15 : 1 ≤ k ∧ k ≤ 5 := by cases hk <;> omega
  rcases cl_cases k s n re im args hk15.1 hk15.2 with ⟨rfl, e⟩ | ⟨rfl, e⟩ | ⟨rfl, e⟩ | ⟨rfl, e⟩ | ⟨rfl, e⟩
  · rw [e]; unfold varsF; rw [if_pos rfl]; rfl
  · rw [e]; unfold varsF; rw [if_neg (by decide), if_neg (by decide)]; rfl
  · rw [e]; unfold varsF; rw [if_neg (by decide), if_neg (by decide)]; rfl
  · rw [e]; unfold varsF; rw [if_neg (by decide), if_neg (by decide)]; rfl
  · rw [e]
    have hka := kinds_args hk rfl
    have key : ∀ l : List Tm, (∀ a ∈ l, a ∈ args) → ∀ L : List Int, varsFs l L = metTs (cls l) L := by
      intro l
      induction l with
      | nil => intro _ L; rfl
      | cons a l ih2 =>
        intro hl L
        have ha : a ∈ args := hl a (by simp)
        rw [varsFs_cons, ih a ha (hka a ha)]
        exact ih2 (fun x hx => hl x (by simp [hx])) _
    unfold varsF; rw [if_neg (by decide), if_pos rfl]
    exact key args (fun _ h => h) L
theorem putR_ok {most : Int} {t : Tm} {st : SS} (hm : mayE t = 0) (h : (putT most (cl t) (-1) st).2.2 = 0) : putR most t st = ((putT most (cl t) (-1) st).1, (putT most (cl t) (-1) st).2.1, 0) := by
  rw [putR_eq, if_pos hm, if_neg (by simpa using h)]
theorem canon_named {t : Tm} (hk : Kinds t) : subst (numG (numV (varsF t []) 0)) (cl t) = canon (cl t) := by rw [varsF_met t hk]; rfl
/-- What is said of StoreBack. -/
theorem back_law (t : Tm) (hm : mayE t = 0) (hr : ranged (cl t)) : ∃ (s1 s2 s3 : SS) (c1 c2 c3 : Int) (n1 n : Nat) (P1 P : List Int),
    putR 1048576 t ⟨[], names0, []⟩ = (s1, c1, 0) ∧ putR 1048576 t ⟨s1.l, s1.L, []⟩ = (s2, c2, 0) ∧ putR 1048576 t s2 = (s3, c3, 0) ∧
    getF s1.l s1.L 500 c1 0 [] = (0, canon (cl t), n1, P1) ∧ getF s3.l s3.L 500 c2 0 [] = (0, canon (cl t), n, P) ∧ getF s3.l s3.L 500 c3 0 P = (0, canon (cl t), n, P) ∧
    P.length = s3.V.length ∧ P.length ≤ 2000 ∧ s3.V.length = (varsF t []).length ∧ Bnd s1 ∧ Bnd s2 ∧ Bnd s3 ∧ U64 c1 ∧ U64 c2 ∧ U64 c3 := by
  obtain ⟨hk, hg⟩ := mayE_zero.1 hm
  obtain ⟨h1, h2, h3, ⟨n1, P1, h4⟩, ⟨n, P, h5, h6, h7, h8⟩, h9, b1, b2, b3, u1, u2, u3⟩ := back_plain hg hr names0_ok _ _ _ rfl rfl rfl
  refine ⟨_, _, _, _, _, _, n1, n, P1, P, putR_ok hm h1, putR_ok hm h2, putR_ok hm h3, h4, h5, h6, h7, h8, ?_, b1, b2, b3, u1, u2, u3⟩
  rw [varsF_met t hk, ← h9, List.length_map]
/-- What is said of StoreTwo. -/
theorem two_law (s t : Tm) (hs : mayE s = 0) (ht : mayE t = 0) (rs : ranged (cl s)) (rt : ranged (cl t)) : ∃ (s1 s2 : SS) (c1 c2 : Int) (n1 n2 : Nat) (P1 P2 : List Int),
    putR 1048576 s ⟨[], names0, []⟩ = (s1, c1, 0) ∧ putR 1048576 t ⟨s1.l, s1.L, []⟩ = (s2, c2, 0) ∧
    getF s2.l s2.L 500 c1 0 [] = (0, canon (cl s), n1, P1) ∧ getF s2.l s2.L 500 c2 0 [] = (0, canon (cl t), n2, P2) ∧ Bnd s1 ∧ Bnd s2 ∧ U64 c1 ∧ U64 c2 := by
  obtain ⟨h1, h2, h3⟩ := two_plain (mayE_zero.1 hs).2 (mayE_zero.1 ht).2 rs rt names0_ok
  obtain ⟨⟨n1, P1, h4⟩, ⟨n2, P2, h5⟩, b1, b2, u1, u2⟩ := h3 _ _ rfl rfl
  exact ⟨_, _, _, _, n1, n2, P1, P2, putR_ok hs h1, putR_ok ht h2, h4, h5, b1, b2, u1, u2⟩
theorem same_self {c : CT} (h : Good c) : sameB (un c) (un c) = true := by
  unfold sameB
  rw [mayE_un h, (like_iff _ _ (kinds_un c) (kinds_un c)).2 rfl]
  rfl
/-- What Variant answers. -/
def variantB (a b : Tm) : Bool := decide (mayE a = 0) && decide (mayE b = 0) && likeB (un (canon (cl a))) (un (canon (cl b)))
theorem variant_canon {t : Tm} (hm : mayE t = 0) : variantB (un (canon (cl t))) t = true := by
  have hg := (mayE_zero.1 hm).2
  unfold variantB
  rw [mayE_un (good_canon hg), hm, cl_un, canon_canon, (like_iff _ _ (kinds_un _) (kinds_un _)).2 rfl]
  rfl

end Go.Proofs.Ytlmcfclonncgbaa
