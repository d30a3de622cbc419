/- What Put lays stands for the term: in plain terms. No program in sight. -/
import Derived.Test.YtlmcfclonncgbaaPut
namespace Go.Proofs.Ytlmcfclonncgbaa
set_option linter.unusedVariables false

mutual
/-- The numbers are of their kinds. -/
def ranged : CT → Prop
  | .var _ => True
  | .atom _ => True
  | .int n => -9223372036854775808 ≤ n ∧ n < 9223372036854775808
  | .cpx re im => 0 ≤ re ∧ 0 ≤ im ∧ re < 18446744073709551616 ∧ im < 18446744073709551616
  | .comp _ args => rangeds args
def rangeds : List CT → Prop
  | [] => True
  | t :: ts => ranged t ∧ rangeds ts
end
mutual
/-- How many cells a term takes, its own place aside. -/
def size : CT → Nat
  | .var _ => 0
  | .atom _ => 0
  | .int n => if isSmall n then 0 else 1
  | .cpx _ _ => 2
  | .comp _ args => 1 + args.length + sizes args
def sizes : List CT → Nat
  | [] => 0
  | t :: ts => size t + sizes ts
end
mutual
theorem size_le : ∀ t : CT, size t + 1 ≤ 3 * nodes t
  | .var _ => by simp only [size, nodes]; omega
  | .atom _ => by simp only [size, nodes]; omega
  | .int n => by simp only [size, nodes]; split <;> omega
  | .cpx _ _ => by simp only [size, nodes]; omega
  | .comp _ args => by simp only [size, nodes]; have := sizes_le args; omega
theorem sizes_le : ∀ l : List CT, sizes l + l.length ≤ 3 * nodesL l
  | [] => by simp [sizes, nodesL]
  | t :: ts => by simp only [sizes, nodesL, List.length_cons]; have := size_le t; have := sizes_le ts; omega
end
/-- One more for a new variable that has no place. -/
def topv (V : List (Int × Int)) : CT → Nat
  | .var n => if look V n = none then 1 else 0
  | _ => 0

theorem rep_occ_aux {W : Nat → Prop} {l : List Int} {L : List ByteArray} : True := trivial
mutual
theorem rep_occ {W : Nat → Prop} {l : List Int} {L : List ByteArray} : ∀ (t : CT) (c n : Int), rep W l L t c → occ n t → ∃ p : Nat, n = p ∧ p < l.length ∧ l.getD p 0 = (p : Int) * 8 ∧ ¬ W p
  | .var m, c, n, h, ho => by obtain ⟨p, h1, h2, h3, h4, _⟩ := h; exact ⟨p, ho.trans h1, h2, h4, h3⟩
  | .atom _, _, _, _, ho => ho.elim
  | .int _, _, _, _, ho => ho.elim
  | .cpx _ _, _, _, _, ho => ho.elim
  | .comp s args, c, n, h, ho => by obtain ⟨p, i, _, _, _, _, _, h⟩ := h; exact reps_occ args (p + 1) n h ho
theorem reps_occ {W : Nat → Prop} {l : List Int} {L : List ByteArray} : ∀ (ts : List CT) (q : Nat) (n : Int), reps W l L ts q → occs n ts → ∃ p : Nat, n = p ∧ p < l.length ∧ l.getD p 0 = (p : Int) * 8 ∧ ¬ W p
  | [], _, _, _, ho => ho.elim
  | t :: ts, q, n, h, ho => by
    rcases ho with ho | ho
    · exact rep_occ t _ n h.2.1 ho
    · exact reps_occ ts (q + 1) n h.2.2 ho
end

structure Inv (W : Nat → Prop) (E : Int → CT) (P : Nat → Prop) (st : SS) : Prop where
  pos : Pos st.l
  names : Names st.L
  slot : ∀ p, P p → p < st.l.length ∧ st.l.getD p 0 = (p : Int) * 8 ∧ ¬ W p
  cell : ∀ n c, look st.V n = some c → 0 ≤ c ∧ rep W st.l st.L (E n) c
  free : ∀ n c, look st.V n = some c → ∀ p : Nat, P p → ¬ occ p (E n)
structure Step (W W' : Nat → Prop) (E E' : Int → CT) (V V' : List (Int × Int)) (n0 : Nat) (vs : Int → Prop) : Prop where
  raw : ∀ p, p < n0 → (W' p ↔ W p)
  old : ∀ n c, look V n = some c → look V' n = some c ∧ E' n = E n
  met : ∀ n, vs n → ∃ c, look V' n = some c
  new : ∀ n c, look V n = none → look V' n = some c → vs n ∧ ∃ q : Nat, E' n = .var q ∧ ∀ m d, m ≠ n → look V' m = some d → ¬ occ q (E' m)
theorem Step.refl {W : Nat → Prop} {E : Int → CT} {V : List (Int × Int)} {n0 : Nat} {vs : Int → Prop} (h : ∀ n, vs n → ∃ c, look V n = some c) : Step W W E E V V n0 vs :=
  ⟨fun _ _ => Iff.rfl, fun n c h => ⟨h, rfl⟩, h, fun n c h1 h2 => by rw [h1] at h2; simp at h2⟩
theorem Step.trans {W W1 W2 : Nat → Prop} {E E1 E2 : Int → CT} {V V1 V2 : List (Int × Int)} {n0 n1 : Nat} {vs us : Int → Prop} (h : Step W W1 E E1 V V1 n0 vs) (k : Step W1 W2 E1 E2 V1 V2 n1 us) (hn : n0 ≤ n1) : Step W W2 E E2 V V2 n0 (fun n => vs n ∨ us n) := by
  refine ⟨fun p hp => (k.raw p (by omega)).trans (h.raw p hp), fun n c hc => ?_, fun n hn => ?_, fun n c h1 h2 => ?_⟩
  · obtain ⟨a, b⟩ := h.old n c hc
    obtain ⟨a', b'⟩ := k.old n c a
    exact ⟨a', b'.trans b⟩
  · rcases hn with hn | hn
    · obtain ⟨c, hc⟩ := h.met n hn
      exact ⟨c, (k.old n c hc).1⟩
    · exact k.met n hn
  · cases h3 : look V1 n with
    | none =>
      obtain ⟨a, b⟩ := k.new n c h3 h2
      exact ⟨Or.inr a, b⟩
    | some d =>
      obtain ⟨a, q, hq, b⟩ := h.new n d h1 h3
      have e := (k.old n d h3).2
      refine ⟨Or.inl a, q, e.trans hq, fun m d' hm hd => ?_⟩
      cases h4 : look V1 m with
      | some d'' => rw [(k.old m d'' h4).2]; exact b m d'' hm h4
      | none =>
        obtain ⟨_, q', hq', b'⟩ := k.new m d' h4 hd
        rw [hq']
        intro ho
        have ho' : (q : Int) = q' := ho
        refine b' n c (Ne.symm hm) h2 ?_
        rw [e, hq]
        exact ho'.symm
theorem Step.mono {W W' : Nat → Prop} {E E' : Int → CT} {V V' : List (Int × Int)} {n0 n1 : Nat} {vs us : Int → Prop} (h : Step W W' E E' V V' n0 vs) (hn : n1 ≤ n0) (hv : ∀ n, vs n ↔ us n) : Step W W' E E' V V' n1 us :=
  ⟨fun p hp => h.raw p (by omega), h.old, fun n hn => h.met n ((hv n).2 hn), fun n c a b => by obtain ⟨x, y⟩ := h.new n c a b; exact ⟨(hv n).1 x, y⟩⟩

/-- More cells behind, more names. -/
theorem Inv.grow {W W' : Nat → Prop} {E : Int → CT} {P : Nat → Prop} {st : SS} (h : Inv W E P st) (m : List Int) (M : List ByteArray) (hm : Pos m) (hM : Names (st.L ++ M)) (hw : ∀ p, p < st.l.length → (W' p ↔ W p)) : Inv W' E P { st with l := st.l ++ m, L := st.L ++ M } := by
  refine ⟨h.pos.append hm, hM, fun p hp => ?_, fun n c hc => ?_, h.free⟩
  · obtain ⟨a, b, c⟩ := h.slot p hp
    exact ⟨by simp only [List.length_append]; omega, by simp only [getD_append a]; exact b, fun hw' => c ((hw p a).1 hw')⟩
  · obtain ⟨a, b⟩ := h.cell n c hc
    exact ⟨a, rep_grow h.pos hw _ _ a b⟩
theorem Inv.fewer {W : Nat → Prop} {E : Int → CT} {P P' : Nat → Prop} {st : SS} (h : Inv W E P st) (hp : ∀ p, P' p → P p) : Inv W E P' st :=
  ⟨h.pos, h.names, fun p hp' => h.slot p (hp p hp'), h.cell, fun n c hc p hp' => h.free n c hc p (hp p hp')⟩

/-- 'f', but for one. -/
def upd (E : Int → CT) (n : Int) (X : CT) : Int → CT := fun m => if m = n then X else E m
theorem upd_same (E : Int → CT) (n : Int) (X : CT) : upd E n X n = X := by simp [upd]
theorem upd_other {E : Int → CT} {n m : Int} {X : CT} (h : m ≠ n) : upd E n X m = E m := by simp [upd, h]

/-- What is said of one Put. -/
structure PutOk (t : CT) (own : Int) (W : Nat → Prop) (E : Int → CT) (P : Nat → Prop) (st : SS) (r : SS × Int × Int) (W' : Nat → Prop) (E' : Int → CT) (m : List Int) (M : List ByteArray) : Prop where
  err : r.2.2 = 0
  l : r.1.l = st.l ++ m
  L : r.1.L = st.L ++ M
  few : M.length ≤ nodes t
  len : m.length = size t + (if own < 0 then topv st.V t else 0)
  step : Step W W' E E' st.V r.1.V st.l.length (fun n => occ n t)
  inv : Inv W' E' (fun p => P p ∧ (p : Int) ≠ own) r.1
  pos : 0 ≤ r.2.1
  rep : rep W' r.1.l r.1.L (subst E' t) r.2.1
  slot : r.2.1 = own * 8 ∨ ∀ p : Nat, own = p → ∀ n c, look r.1.V n = some c → ¬ occ p (E' n)

theorem pushWs_room (most : Int) : ∀ (ws l : List Int), (l.length + ws.length : Int) ≤ most → pushWs most l ws = (l ++ ws, true)
  | [], l, _ => by simp [pushWs]
  | w :: ws, l, h => by
    simp only [List.length_cons] at h
    unfold pushWs
    rw [if_pos (by omega), pushWs_room most ws (l ++ [w]) (by simp; omega)]
    simp
/-- So many variables. -/
def refsL (n : Nat) : Nat → List Int
  | 0 => []
  | k + 1 => (n : Int) * 8 :: refsL (n + 1) k
theorem refsL_length : ∀ (k n : Nat), (refsL n k).length = k
  | 0, _ => rfl
  | k + 1, n => by simp [refsL, refsL_length k]
theorem refsL_get : ∀ (k n i : Nat), i < k → (refsL n k)[i]? = some (((n + i : Nat) : Int) * 8)
  | 0, _, _, h => by omega
  | k + 1, n, 0, _ => by simp [refsL]
  | k + 1, n, i + 1, h => by
    simp only [refsL, List.getElem?_cons_succ]
    rw [refsL_get k (n + 1) i (by omega)]
    congr 2; omega
theorem refsL_pos (k n : Nat) : Pos (refsL n k) := by
  intro x hx
  obtain ⟨i, hi⟩ := List.getElem?_of_mem hx
  have hlt := (List.getElem?_eq_some_iff.1 hi).1
  rw [refsL_length] at hlt
  rw [refsL_get k n i hlt] at hi
  simp at hi
  omega
theorem pushRs_room (most : Int) : ∀ (k : Nat) (l : List Int), (l.length + k : Int) ≤ most → pushRs most l k = (l ++ refsL l.length k, true)
  | 0, l, _ => by simp [pushRs, refsL]
  | k + 1, l, h => by
    unfold pushRs
    rw [if_pos (by omega), pushRs_room most k _ (by simp; omega)]
    simp [refsL]
theorem getD_at {l m : List Int} {i : Nat} : (l ++ m).getD (l.length + i) 0 = m.getD i 0 := by
  simp only [List.getD]; rw [List.getElem?_append_right (by omega)]; simp

/-- Plain words laid. -/
theorem words_ok {most : Int} {t : CT} {own tag : Int} {W : Nat → Prop} {E : Int → CT} {P : Nat → Prop} {st : SS} {ws : List Int} (h : Inv W E P st) (hw : Pos ws) (hroom : (st.l.length + ws.length : Int) ≤ most) (hsz : size t = ws.length) (htv : topv st.V t = 0) (hocc : ∀ n, ¬ occ n t)
    (hown : ∀ p : Nat, own = p → P p) (ht0 : 0 < tag) (ht : tag < 8) (hrep : ∀ W' : Nat → Prop, (∀ i, i < ws.length → W' (st.l.length + i)) → rep W' (st.l ++ ws) st.L t ((st.l.length : Int) * 8 + tag)) :
    ∃ W', PutOk t own W E P st (wordsT most tag ws st) W' E ws [] := by
  have e : wordsT most tag ws st = ({ st with l := st.l ++ ws }, (st.l.length : Int) * 8 + tag, 0) := by
    unfold wordsT; rw [pushWs_room most ws st.l hroom]; simp
  rw [e]
  have hW : ∀ p, p < st.l.length → ((fun p => if p < st.l.length then W p else True) p ↔ W p) := fun p hp => by simp [hp]
  refine ⟨fun p => if p < st.l.length then W p else True, rfl, rfl, by simp, by simp, by rw [hsz, htv]; simp, ?_, ?_, by simp only []; omega, ?_, Or.inr ?_⟩
  · exact ⟨hW, fun n c h => ⟨h, rfl⟩, fun n hn => absurd hn (hocc n), fun n c h1 h2 => by dsimp only at h2; rw [h1] at h2; simp at h2⟩
  · have := (h.grow ws [] hw (by simpa using h.names) hW).fewer (P' := fun p => P p ∧ (p : Int) ≠ own) (fun p hp => hp.1)
    simpa using this
  · have : subst E t = t := by rw [subst_congr (g := .var) t (fun n hn => absurd hn (hocc n)), subst_var]
    rw [this]
    exact hrep _ (fun i _ => by rw [if_neg (by omega)]; trivial)
  · intro p hp n c hc ho
    exact h.free n c hc p (hown p hp) ho

theorem names_num {most : Int} {W : Nat → Prop} {E : Int → CT} {P : Nat → Prop} {st : SS} (h : Inv W E P st) (s : ByteArray) (hs : s.size ≤ 200) (hl : st.L.length + 1 ≤ 4096) :
    numE st.L s = 0 ∧ ∃ M i, numL st.L s = st.L ++ M ∧ M.length ≤ 1 ∧ numN st.L s = (i : Nat) ∧ (st.L ++ M)[i]? = some s ∧ Names (st.L ++ M) := by
  obtain ⟨a, b, c⟩ := numL_mem st.L s hs (by omega)
  obtain ⟨M, hM, hM1⟩ := numL_pre st.L s
  refine ⟨b, M, _, hM, hM1, c, ?_, hM ▸ h.names.num s⟩
  rw [← hM]
  exact idxL_get _ _ (by simpa [memB] using a)

/-- What is said of the arguments of one Put. -/
structure ArgsOk (ts : List CT) (p : Nat) (W : Nat → Prop) (E : Int → CT) (P : Nat → Prop) (st : SS) (r : SS × Int) (W' : Nat → Prop) (E' : Int → CT) (M : List ByteArray) : Prop where
  err : r.2 = 0
  L : r.1.L = st.L ++ M
  few : M.length ≤ nodesL ts
  len : r.1.l.length = st.l.length + sizes ts
  same : ∀ q, q < st.l.length → (∀ i, i < ts.length → q ≠ p + i) → r.1.l[q]? = st.l[q]?
  step : Step W W' E E' st.V r.1.V st.l.length (fun n => occs n ts)
  inv : Inv W' E' (fun q => P q ∧ ∀ i, i < ts.length → q ≠ p + i) r.1
  rep : reps W' r.1.l r.1.L (substs E' ts) p
  keep : ∀ T c, 0 ≤ c → Ytlmcfclonncgbaa.rep W st.l st.L T c → (∀ i, i < ts.length → ¬ occ ((p + i : Nat) : Int) T) → Ytlmcfclonncgbaa.rep W' r.1.l r.1.L T c

mutual
theorem putT_ok (most : Int) : ∀ (t : CT) (own : Int) (st : SS) (W : Nat → Prop) (E : Int → CT) (P : Nat → Prop), Inv W E P st → fine t → ranged t → (∀ p : Nat, own = p → P p) →
    (st.l.length + size t + (if own < 0 then topv st.V t else 0) : Int) ≤ most → st.L.length + nodes t ≤ 4096 →
    ∃ W' E' m M, PutOk t own W E P st (putT most t own st) W' E' m M
  | .var n, own, st, W, E, P, h, hf, hr, hown, hroom, hnames => by
    cases hv : look st.V n with
    | some c =>
      have e : putT most (.var n) own st = (st, c, 0) := by simp only [putT, varT, hv]
      rw [e]
      obtain ⟨a, b⟩ := h.cell n c hv
      refine ⟨W, E, [], [], rfl, by simp, by simp, by simp, by simp [size, topv, hv], Step.refl (fun m hm => ?_), h.fewer (fun p hp => hp.1), a, b, Or.inr fun p hp n c hc => h.free n c hc p (hown p hp)⟩
      have hm' : m = n := hm
      subst hm'
      exact ⟨c, hv⟩
    | none =>
      by_cases ho : own < 0
      · rw [if_pos ho] at hroom
        simp only [size, topv, hv, if_true] at hroom
        have e : putT most (.var n) own st = ({ st with l := st.l ++ [(st.l.length : Int) * 8], V := st.V ++ [(n, (st.l.length : Int) * 8)] }, (st.l.length : Int) * 8, 0) := by
          simp only [putT, varT, hv]; rw [if_pos ho, if_pos (by omega)]
        rw [e]
        have hW : ∀ p, p < st.l.length → ((fun p => if p < st.l.length then W p else False) p ↔ W p) := fun p hp => by simp [hp]
        have hg := h.grow [(st.l.length : Int) * 8] [] (by intro x hx; simp at hx; omega) (by simpa using h.names) hW
        simp only [List.append_nil] at hg
        have hat : (st.l ++ [(st.l.length : Int) * 8]).getD st.l.length 0 = (st.l.length : Int) * 8 := by
          simp
        have hself : Ytlmcfclonncgbaa.rep (fun p => if p < st.l.length then W p else False) (st.l ++ [(st.l.length : Int) * 8]) st.L (.var (st.l.length : Nat)) ((st.l.length : Int) * 8) :=
          ⟨st.l.length, rfl, by simp, by simp, hat, Ch.self (Or.inr (by rw [show ((st.l.length : Int) * 8 / 8).toNat = st.l.length by omega]; exact hat))⟩
        have hlook : ∀ m d, look (st.V ++ [(n, (st.l.length : Int) * 8)]) m = some d → (m = n ∧ d = (st.l.length : Int) * 8) ∨ (m ≠ n ∧ look st.V m = some d) := by
          intro m d hd
          by_cases hm : m = n
          · subst hm; rw [look_new hv] at hd; exact Or.inl ⟨rfl, (Option.some.inj hd).symm⟩
          · rw [look_old hm] at hd; exact Or.inr ⟨hm, hd⟩
        refine ⟨fun p => if p < st.l.length then W p else False, upd E n (.var (st.l.length : Nat)), _, [], rfl, rfl, by simp, by simp, by simp [size, topv, hv, ho], ?_, ?_, by simp only []; omega, ?_, Or.inr fun p hp => by omega⟩
        · refine ⟨hW, fun m c hc => ?_, fun m hm => ?_, fun m c h1 h2 => ?_⟩
          · have hne : m ≠ n := by rintro rfl; rw [hv] at hc; simp at hc
            exact ⟨by rw [look_old hne]; exact hc, upd_other hne⟩
          · have hm' : m = n := hm
            subst hm'
            exact ⟨_, look_new hv⟩
          · rcases hlook m c h2 with ⟨rfl, rfl⟩ | ⟨_, h3⟩
            · refine ⟨rfl, st.l.length, upd_same _ _ _, fun k d hk hd => ?_⟩
              rcases hlook k d hd with ⟨rfl, _⟩ | ⟨_, h3⟩
              · exact absurd rfl hk
              · rw [upd_other hk]
                intro hoc
                obtain ⟨q, q1, q2, _⟩ := rep_occ _ _ _ (h.cell k d h3).2 hoc
                omega
            · rw [h1] at h3; simp at h3
        · refine ⟨hg.pos, hg.names, fun p hp => hg.slot p hp.1, fun m c hc => ?_, fun m c hc p hp => ?_⟩
          · rcases hlook m c hc with ⟨rfl, rfl⟩ | ⟨hne, h3⟩
            · rw [upd_same]; exact ⟨by omega, hself⟩
            · rw [upd_other hne]; exact hg.cell m c h3
          · rcases hlook m c hc with ⟨rfl, rfl⟩ | ⟨hne, h3⟩
            · rw [upd_same]
              intro hoc
              have hoc' : (p : Int) = (st.l.length : Nat) := hoc
              have := (h.slot p hp.1).1
              omega
            · rw [upd_other hne]; exact hg.free m c h3 p hp.1
        · simp only [subst, upd_same]; exact hself
      · obtain ⟨p, rfl⟩ : ∃ p : Nat, own = p := ⟨own.toNat, by omega⟩
        have hP := hown p rfl
        obtain ⟨s1, s2, s3⟩ := h.slot p hP
        have e : putT most (.var n) p st = ({ st with V := st.V ++ [(n, (p : Int) * 8)] }, (p : Int) * 8, 0) := by
          simp only [putT, varT, hv]; rw [if_neg (by omega)]
        rw [e]
        have hself : Ytlmcfclonncgbaa.rep W st.l st.L (.var p) ((p : Int) * 8) :=
          ⟨p, rfl, s1, s3, s2, Ch.self (Or.inr (by rw [show ((p : Int) * 8 / 8).toNat = p by omega]; exact s2))⟩
        have hlook : ∀ m d, look (st.V ++ [(n, (p : Int) * 8)]) m = some d → (m = n ∧ d = (p : Int) * 8) ∨ (m ≠ n ∧ look st.V m = some d) := by
          intro m d hd
          by_cases hm : m = n
          · subst hm; rw [look_new hv] at hd; exact Or.inl ⟨rfl, (Option.some.inj hd).symm⟩
          · rw [look_old hm] at hd; exact Or.inr ⟨hm, hd⟩
        refine ⟨W, upd E n (.var p), [], [], rfl, by simp, by simp, by simp, by simp [size, ho], ?_, ?_, by simp only []; omega, ?_, Or.inl rfl⟩
        · refine ⟨fun _ _ => Iff.rfl, fun m c hc => ?_, fun m hm => ?_, fun m c h1 h2 => ?_⟩
          · have hne : m ≠ n := by rintro rfl; rw [hv] at hc; simp at hc
            exact ⟨by rw [look_old hne]; exact hc, upd_other hne⟩
          · have hm' : m = n := hm
            subst hm'
            exact ⟨_, look_new hv⟩
          · rcases hlook m c h2 with ⟨rfl, rfl⟩ | ⟨_, h3⟩
            · refine ⟨rfl, p, upd_same _ _ _, fun k d hk hd => ?_⟩
              rcases hlook k d hd with ⟨rfl, _⟩ | ⟨_, h3⟩
              · exact absurd rfl hk
              · rw [upd_other hk]
                exact h.free k d h3 p hP
            · rw [h1] at h3; simp at h3
        · refine ⟨h.pos, h.names, fun p hp => h.slot p hp.1, fun m c hc => ?_, fun m c hc q hq => ?_⟩
          · rcases hlook m c hc with ⟨rfl, rfl⟩ | ⟨hne, h3⟩
            · rw [upd_same]; exact ⟨by omega, hself⟩
            · rw [upd_other hne]; exact h.cell m c h3
          · rcases hlook m c hc with ⟨rfl, rfl⟩ | ⟨hne, h3⟩
            · rw [upd_same]
              intro hoc
              have hoc' : (q : Int) = p := hoc
              exact hq.2 hoc'
            · rw [upd_other hne]; exact h.free m c h3 q hq.1
        · simp only [subst, upd_same]; exact hself
  | .atom s, own, st, W, E, P, h, hf, hr, hown, hroom, hnames => by
    obtain ⟨e0, M, i, e1, e2, e3, e4, e5⟩ := names_num (most := most) h s hf (by simp only [nodes] at hnames; omega)
    have e : putT most (.atom s) own st = ({ st with L := st.L ++ M }, (i : Int) * 8 + 2, 0) := by simp only [putT, e0, e1, e3]
    rw [e]
    have hg := h.grow [] M (by intro x hx; simp at hx) e5 (W' := W) (fun _ _ => Iff.rfl)
    simp only [List.append_nil] at hg
    refine ⟨W, E, [], M, rfl, by simp, rfl, by simpa [nodes] using e2, by simp [size, topv], ⟨fun _ _ => Iff.rfl, fun n c h => ⟨h, rfl⟩, fun n hn => hn.elim, fun n c h1 h2 => by dsimp only at h2; rw [h1] at h2; simp at h2⟩, hg.fewer (fun p hp => hp.1), by simp only []; omega, ?_, Or.inr fun p hp n c hc => h.free n c hc p (hown p hp)⟩
    exact ⟨i, e4, Ch.self (Or.inl (by show ((i : Int) * 8 + 2) % 8 ≠ 0; omega))⟩
  | .int n, own, st, W, E, P, h, hf, hr, hown, hroom, hnames => by
    by_cases hs : isSmall n
    · have e : putT most (.int n) own st = (st, smallC n, 0) := by simp only [putT]; rw [if_pos hs]
      rw [e]
      refine ⟨W, E, [], [], rfl, by simp, by simp, by simp, by simp [size, topv, hs], Step.refl (fun n hn => hn.elim), h.fewer (fun p hp => hp.1), by simp only []; unfold smallC; omega, Or.inl ⟨hs, Ch.self (Or.inl (by simp only []; unfold smallC; omega))⟩, Or.inr fun p hp n c hc => h.free n c hc p (hown p hp)⟩
    · have e : putT most (.int n) own st = wordsT most 4 [u64 n] st := by simp only [putT]; rw [if_neg hs]
      rw [e]
      have hz : size (.int n) = [u64 n].length := by simp [size, hs]
      rw [hz] at hroom
      obtain ⟨W', hp⟩ := words_ok (t := .int n) (own := own) (tag := 4) (ws := [u64 n]) h (by intro x hx; simp at hx; subst hx; unfold u64; omega) (by simp only [topv] at hroom; split at hroom <;> simp at hroom ⊢ <;> omega) hz rfl (fun _ => id) hown (by omega) (by omega) (fun W' hW => by
        refine Or.inr ⟨hs, hr.1, hr.2, st.l.length, by simp, hW 0 (by simp), ?_, Ch.self (Or.inl (by omega))⟩
        simp [u64])
      exact ⟨W', E, _, _, hp⟩
  | .cpx re im, own, st, W, E, P, h, hf, hr, hown, hroom, hnames => by
    have e : putT most (.cpx re im) own st = wordsT most 5 [re, im] st := by simp only [putT]
    rw [e]
    have hz : size (.cpx re im) = [re, im].length := by simp [size]
    rw [hz] at hroom
    obtain ⟨h1, h2, h3, h4⟩ := hr
    obtain ⟨W', hp⟩ := words_ok (t := .cpx re im) (own := own) (tag := 5) (ws := [re, im]) h (by intro x hx; simp at hx; rcases hx with rfl | rfl <;> assumption) (by simp only [topv] at hroom; split at hroom <;> simp at hroom ⊢ <;> omega) hz rfl (fun _ => id) hown (by omega) (by omega) (fun W' hW => by
      refine ⟨st.l.length, by simp, hW 0 (by simp), hW 1 (by simp), ?_, ?_, Ch.self (Or.inl (by omega))⟩
      · simp
      · simp)
    exact ⟨W', E, _, _, hp⟩
  | .comp s args, own, st, W, E, P, h, hf, hr, hown, hroom, hnames => by
    obtain ⟨f1, f2, f3, f4⟩ := hf
    simp only [size, topv, nodes] at hroom hnames
    obtain ⟨e0, M, i, e1, e2, e3, e4, e5⟩ := names_num (most := most) h s f1 (by omega)
    have hi0 : ((i : Int)).toNat = i := by omega
    have hr0 : (st.l.length + 1 + args.length + sizes args : Int) ≤ most := by split at hroom <;> omega
    have ec : compT most s args.length st = ({ st with l := st.l ++ (funC i args.length :: refsL (st.l.length + 1) args.length), L := st.L ++ M }, st.l.length, 0) := by
      unfold compT
      rw [if_neg (by simp [e0]), if_pos (by omega), e3, hi0, pushRs_room most args.length _ (by simp; omega), e1]
      simp
    have e : putT most (.comp s args) own st = ((putArgs most args (st.l.length + 1) { st with l := st.l ++ (funC i args.length :: refsL (st.l.length + 1) args.length), L := st.L ++ M }).1, (st.l.length : Int) * 8 + 1, (putArgs most args (st.l.length + 1) { st with l := st.l ++ (funC i args.length :: refsL (st.l.length + 1) args.length), L := st.L ++ M }).2) := by
      simp only [putT, ec]
      rw [if_neg (by simp)]
    have hW : ∀ p, p < st.l.length → ((fun p => if p < st.l.length then W p else False) p ↔ W p) := fun p hp => by simp [hp]
    have hg := h.grow (funC i args.length :: refsL (st.l.length + 1) args.length) M (by
      intro x hx
      rcases List.mem_cons.1 hx with rfl | hx
      · unfold funC; omega
      · exact refsL_pos _ _ x hx) e5 hW
    have hsl : ∀ j, j < args.length → (st.l ++ (funC i args.length :: refsL (st.l.length + 1) args.length)).getD (st.l.length + 1 + j) 0 = ((st.l.length + 1 + j : Nat) : Int) * 8 := by
      intro j hj
      rw [Nat.add_assoc, getD_at, Nat.add_comm 1 j]
      simp only [List.getD, List.getElem?_cons_succ]
      rw [refsL_get _ _ _ hj]
      simp only [Option.getD_some]
      congr 2; omega
    have hg2 : Inv (fun p => if p < st.l.length then W p else False) E (fun p => P p ∨ ∃ j, j < args.length ∧ p = st.l.length + 1 + j) { st with l := st.l ++ (funC i args.length :: refsL (st.l.length + 1) args.length), L := st.L ++ M } := by
      refine ⟨hg.pos, hg.names, fun p hp => ?_, hg.cell, fun n c hc p hp => ?_⟩
      · rcases hp with hp | ⟨j, hj, rfl⟩
        · exact hg.slot p hp
        · refine ⟨by simp only [List.length_append, List.length_cons, refsL_length]; omega, hsl j hj, by simp; omega⟩
      · rcases hp with hp | ⟨j, hj, rfl⟩
        · exact hg.free n c hc p hp
        · intro ho
          obtain ⟨q, q1, q2, _⟩ := rep_occ _ _ _ (h.cell n c hc).2 ho
          omega
    have hlen : (st.l ++ (funC i args.length :: refsL (st.l.length + 1) args.length)).length = st.l.length + 1 + args.length := by simp [refsL_length]; omega
    obtain ⟨W', E', M', ao⟩ := putArgs_ok most args (st.l.length + 1) _ _ E _ hg2 f4 hr (fun j hj => Or.inr ⟨j, hj, rfl⟩) (by dsimp only; rw [hlen]; omega) (by dsimp only; simp only [List.length_append]; omega)
    rw [e]
    generalize putArgs most args (st.l.length + 1) { st with l := st.l ++ (funC i args.length :: refsL (st.l.length + 1) args.length), L := st.L ++ M } = r at ao
    obtain ⟨a1, a2, a3, a4, a5, a6, a7, a8, a9⟩ := ao
    dsimp only at a2 a4 a5 a6 a9
    rw [hlen] at a4 a5 a6
    have hpre : ∀ q, q < st.l.length + 1 → r.1.l[q]? = (st.l ++ (funC i args.length :: refsL (st.l.length + 1) args.length))[q]? := fun q hq => a5 q (by omega) (fun j _ => by omega)
    have hl : r.1.l = st.l ++ r.1.l.drop st.l.length := by
      conv => lhs; rw [← List.take_append_drop st.l.length r.1.l]
      congr 1
      apply List.ext_getElem?
      intro q
      rw [List.getElem?_take]
      split
      · rw [hpre q (by omega), List.getElem?_append_left (by assumption)]
      · rw [List.getElem?_eq_none (by omega)]
    have hfun : r.1.l.getD st.l.length 0 = funC i args.length := by
      simp only [List.getD]
      rw [hpre _ (by omega), List.getElem?_append_right (by omega)]
      simp
    have st1 : Step W (fun p => if p < st.l.length then W p else False) E E st.V st.V st.l.length (fun _ => False) :=
      ⟨hW, fun n c h => ⟨h, rfl⟩, fun n hn => hn.elim, fun n c h1 h2 => by rw [h1] at h2; simp at h2⟩
    have st2 := st1.trans a6 (by omega)
    refine ⟨W', E', _, M ++ M', a1, hl, by rw [a2, List.append_assoc], by simp only [List.length_append, nodes]; omega, ?_, st2.mono (Nat.le_refl _) (fun n => by simp [occ]), ?_, by simp only []; omega, ?_, ?_⟩
    · rw [List.length_drop, a4]; simp only [size, topv]; split <;> omega
    · refine a7.fewer (fun p hp => ⟨Or.inl hp.1, fun j _ => ?_⟩)
      have := (h.slot p hp.1).1
      omega
    · refine ⟨st.l.length, i, by rw [a4, substs_length]; omega, ?_, by rw [hfun, substs_length], ?_, Ch.self (Or.inl (by show ((st.l.length : Int) * 8 + 1) % 8 ≠ 0; omega)), a8⟩
      · intro hw
        have := (a6.raw st.l.length (by omega)).1 hw
        simp at this
      · rw [a2, List.getElem?_append_left (List.getElem?_eq_some_iff.1 e4).1]; exact e4
    · refine Or.inr fun p hp n c hc => a7.free n c hc p ⟨Or.inl (hown p hp), fun j _ => ?_⟩
      have := (h.slot p (hown p hp)).1
      omega
theorem putArgs_ok (most : Int) : ∀ (ts : List CT) (p : Nat) (st : SS) (W : Nat → Prop) (E : Int → CT) (P : Nat → Prop), Inv W E P st → fines ts → rangeds ts → (∀ i, i < ts.length → P (p + i)) →
    (st.l.length + sizes ts : Int) ≤ most → st.L.length + nodesL ts ≤ 4096 →
    ∃ W' E' M, ArgsOk ts p W E P st (putArgs most ts p st) W' E' M
  | [], p, st, W, E, P, h, _, _, hP, hroom, hnames => by
    refine ⟨W, E, [], rfl, by simp [putArgs], by simp, by simp [putArgs, sizes], fun _ _ _ => rfl, Step.refl (fun n hn => hn.elim), h.fewer (fun q hq => hq.1), trivial, fun T c hc hT _ => hT⟩
  | a :: as, p, st, W, E, P, h, hf, hr, hP, hroom, hnames => by
    simp only [sizes, nodesL] at hroom hnames
    obtain ⟨W1, E1, m, M, b⟩ := putT_ok most a p st W E P h hf.1 hr.1 (fun q hq => by
      have e : q = p + 0 := by omega
      rw [e]; exact hP 0 (by simp)) (by rw [if_neg (by omega)]; omega) (by omega)
    have hPp : P p := hP 0 (by simp)
    obtain ⟨s1, s2, s3⟩ := h.slot p hPp
    have e : putArgs most (a :: as) p st = putArgs most as (p + 1) { (putT most a p st).1 with l := (putT most a p st).1.l.set p (putT most a p st).2.1 } := by
      simp only [putArgs]; rw [if_neg (by simp [b.err])]
    rw [e]
    obtain ⟨b1, b2, b3, b4, b5, b6, b7, b8, b9, b10⟩ := b
    generalize putT most a p st = r1 at *
    rw [if_neg (by omega), Nat.add_zero] at b5
    have hlen1 : r1.1.l.length = st.l.length + size a := by rw [b2, List.length_append, b5]
    have t2 : r1.1.l.getD p 0 = (p : Int) * 8 := by rw [b2, getD_append s1]; exact s2
    have t3 : ¬ W1 p := fun hw => s3 ((b6.raw p s1).1 hw)
    have t1 : p < r1.1.l.length := by omega
    have hX0 : r1.2.1 = (p : Int) * 8 ∨ ∀ n c, look r1.1.V n = some c → ¬ occ p (E1 n) := b10.imp id (fun hh n c hc => hh p rfl n c hc)
    -- what stands in a term of known variables
    have hnot : ∀ T c, 0 ≤ c → Ytlmcfclonncgbaa.rep W1 r1.1.l r1.1.L T c → (r1.2.1 = (p : Int) * 8 ∨ ¬ occ p T) → Ytlmcfclonncgbaa.rep W1 (r1.1.l.set p r1.2.1) r1.1.L T c := by
      intro T c hc hT ho
      rcases ho with ho | ho
      · have : r1.1.l.set p r1.2.1 = r1.1.l := by
          apply List.ext_getElem?
          intro j
          rw [List.getElem?_set]
          split
          · rename_i hj; subst hj
            rw [ho, ← t2]
            simp [List.getD, List.getElem?_eq_getElem t1]
          · rfl
        rw [this]; exact hT
      · exact rep_set_not b7.pos t2 t3 T c hc ho hT
    have hinv2 : Inv W1 E1 (fun q => P q ∧ (q : Int) ≠ p) { r1.1 with l := r1.1.l.set p r1.2.1 } := by
      refine ⟨b7.pos.set b8, b7.names, fun q hq => ?_, fun n c hc => ?_, b7.free⟩
      · obtain ⟨u1, u2, u3⟩ := b7.slot q hq
        have := hq.2
        exact ⟨by rw [List.length_set]; exact u1, by rw [getD_set, if_neg (by omega)]; exact u2, u3⟩
      · obtain ⟨u1, u2⟩ := b7.cell n c hc
        exact ⟨u1, hnot _ _ u1 u2 (hX0.imp id (fun hh => hh n c hc))⟩
    have hoc : ∀ q : Int, occ q (subst E1 a) → ∃ n c, look r1.1.V n = some c ∧ occ q (E1 n) := by
      intro q hq
      obtain ⟨n, h1, h2⟩ := (occ_subst E1 a q).1 hq
      obtain ⟨c, hc⟩ := b6.met n h1
      exact ⟨n, c, hc, h2⟩
    have hX : Ytlmcfclonncgbaa.rep W1 (r1.1.l.set p r1.2.1) r1.1.L (subst E1 a) r1.2.1 := hnot _ _ b8 b9 (hX0.imp id (fun hh ho => by
      obtain ⟨n, c, hc, h2⟩ := hoc p ho
      exact hh n c hc h2))
    obtain ⟨W2, E2, M2, c⟩ := putArgs_ok most as (p + 1) _ W1 E1 _ hinv2 hf.2 hr.2 (fun i hi => ⟨by have := hP (i + 1) (by simp; omega); rw [show p + 1 + i = p + (i + 1) by omega]; exact this, by omega⟩) (by dsimp only; rw [List.length_set, hlen1]; omega) (by dsimp only; rw [b3, List.length_append]; omega)
    generalize putArgs most as (p + 1) { r1.1 with l := r1.1.l.set p r1.2.1 } = r2 at *
    obtain ⟨c1, c2, c3, c4, c5, c6, c7, c8, c9⟩ := c
    dsimp only at c2 c4 c5 c6 c9
    rw [List.length_set] at c4 c5 c6
    have hat : r2.1.l.getD p 0 = r1.2.1 := by
      have := c5 p t1 (fun i _ => by omega)
      simp only [List.getD]
      rw [this, List.getElem?_set, if_pos rfl, if_pos t1]
      rfl
    have heq : subst E2 a = subst E1 a := subst_congr a (fun n hn => by
      obtain ⟨c, hc⟩ := b6.met n hn
      exact (c6.old n c hc).2)
    refine ⟨W2, E2, M ++ M2, c1, by rw [c2, b3, List.append_assoc], by simp only [List.length_append, nodesL]; omega, by rw [c4, hlen1]; simp only [sizes]; omega, ?_, ?_, ?_, ?_, ?_⟩
    · intro q hq hne
      have h0 := hne 0 (by simp)
      rw [c5 q (by omega) (fun i hi => by have := hne (i + 1) (by simp; omega); omega), List.getElem?_set, if_neg (by omega), b2, List.getElem?_append_left hq]
    · exact (b6.trans c6 (by omega)).mono (Nat.le_refl _) (fun n => by simp [occs])
    · refine c7.fewer (fun q hq => ⟨⟨hq.1, ?_⟩, fun i hi => ?_⟩)
      · have := hq.2 0 (by simp); omega
      · have := hq.2 (i + 1) (by simp; omega); omega
    · refine ⟨fun hw => t3 ((c6.raw p t1).1 hw), ?_, c8⟩
      rw [hat, heq]
      refine c9 _ _ b8 hX (fun i hi ho => ?_)
      obtain ⟨n, c, hc, h2⟩ := hoc _ ho
      exact b7.free n c hc (p + 1 + i) ⟨by have := hP (i + 1) (by simp; omega); rw [show p + 1 + i = p + (i + 1) by omega]; exact this, by omega⟩ h2
    · intro T d hd hT hno
      refine c9 T d hd (hnot T d hd ?_ (Or.inr (by have := hno 0 (by simp); simpa using this))) (fun i hi ho => hno (i + 1) (by simp; omega) (by rw [show p + (i + 1) = p + 1 + i by omega]; exact ho))
      rw [b2, b3]
      exact rep_grow h.pos (fun q hq => b6.raw q hq) T d hd hT
end
end Go.Proofs.Ytlmcfclonncgbaa
