/- Two terms laid, in the walks' own words; unlike ones are never made one. -/
import Derived.Test.YtlmcfclonncgbaaPk11
namespace Go.Proofs.Ytlmcfclonncgbaa
open Go.RowKit
set_option linter.unusedVariables false
set_option linter.unusedSimpArgs false

/-- Two terms laid, in the walks' own words. -/
structure LaidR (s t : Tm) (s1 s2 : SS) (c1 c2 : Int) (W : Nat → Prop) (ρ : Int → Int) : Prop where
  p1 : putR 20000 s ⟨[], names0, []⟩ = (s1, c1, 0)
  p2 : putR 20000 t s1 = (s2, c2, 0)
  u1 : U64 c1
  u2 : U64 c2
  rep1 : rep W s2.l s2.L (subst (ren ρ) (cl s)) c1
  rep2 : rep W s2.l s2.L (subst (ren ρ) (cl t)) c2
  var : ∀ n, occ n (cl s) ∨ occ n (cl t) → 0 ≤ ρ n
  inj : InjOn ρ (fun a => occ a (cl s) ∨ occ a (cl t))
  pos : Pos s2.l
  names : Names s2.L
  bnd1 : Bnd s1
  bnd : Bnd s2
  vl : s1.V.length < 900000
theorem laidR {s t : Tm} (hms : mayE s = 0) (hmt : mayE t = 0) (rs : ranged (cl s)) (rt : ranged (cl t)) (hn : nodes (cl s) + nodes (cl t) ≤ 4000) (hr : 3 * nodes (cl s) + 3 * nodes (cl t) + 2 ≤ 20000) : ∃ s1 s2 c1 c2 W ρ, LaidR s t s1 s2 c1 c2 W ρ := by
  obtain ⟨W, ρ, h⟩ := laid_ok (most := 20000) (by decide) (mayE_zero.1 hms).2 (mayE_zero.1 hmt).2 rs rt (by omega) hn
  have e1 := putR_ok hms h.err1
  have e2 := putR_ok hmt h.err2
  exact ⟨_, _, _, _, W, ρ, e1, e2, h.c1, h.c2, h.rep1, h.rep2, h.var, h.inj, h.pos, h.names, h.bnd1, h.bnd2, by have := h.vl1; omega⟩
theorem fineRen {ρ : Int → Int} {t : CT} (hp : ∀ n, occ n t → 0 ≤ ρ n) (h : Good t) : fine (subst (ren ρ) t) := (good_ren hp h).1
theorem isVar_ren (ρ : Int → Int) (t : CT) : isVar (subst (ren ρ) t) = isVar t := by cases t <;> rfl
theorem headEq_ren (ρ : Int → Int) {a b : CT} (va : isVar a = false) (vb : isVar b = false) : headEq (subst (ren ρ) a) (subst (ren ρ) b) ↔ headEq a b := by
  cases a <;> cases b <;> first | (cases va; done) | (cases vb; done) | exact Iff.rfl | skip
  simp only [subst, headEq, substs_length]
theorem LaidR.unlike {s t : Tm} {s1 s2 : SS} {c1 c2 : Int} {W : Nat → Prop} {ρ : Int → Int} (h : LaidR s t s1 s2 c1 c2 W ρ) (hms : mayE s = 0) (hmt : mayE t = 0) (hv : isVar (cl s) = false) (hw : isVar (cl t) = false) (hh : ¬ headEq (cl s) (cl t)) :
    uni 100000 s2.l [] [(c1, c2)] = (false, 0, s2.l, [], 99999) :=
  uni_unlike h.names.nodup h.pos h.u1.1 h.u2.1 h.rep1 h.rep2 (fineRen (fun n hn => h.var n (Or.inl hn)) (mayE_zero.1 hms).2) (fineRen (fun n hn => h.var n (Or.inr hn)) (mayE_zero.1 hmt).2) (by rw [isVar_ren]; exact hv) (by rw [isVar_ren]; exact hw) (by rw [headEq_ren ρ hv hw]; exact hh)
theorem bindL_u {l : List Int} {a b : Int} (hl : ∀ x ∈ l, U64 x) (ha : U64 a) (hb : U64 b) : ∀ x ∈ bindL l a b, U64 x := fun x hx => bindL_u64 hl ha hb x hx
theorem deref_u {l : List Int} (hl : ∀ x ∈ l, U64 x) {c : Int} (hc : U64 c) : U64 (deref l c) := derefF_rng hl (by decide) l.length c hc
theorem uStep_u {l : List Int} {T : Tr} {f : Nat} {a b : Int} (hl : ∀ x ∈ l, U64 x) (ha : U64 a) (hb : U64 b) : ∀ x ∈ (uStep l T f a b).2.2.1, U64 x := by
  unfold uStep
  split
  · exact hl
  · split
    · exact bindL_u hl ha hb
    · split
      · exact fun x hx => bindS_u64 _ hl ha hb x hx
      · split
        · exact fun x hx => bindS_u64 _ hl hb ha x hx
        · exact hl
theorem uPush_u {l : List Int} (hl : ∀ x ∈ l, U64 x) (a b : Int) : ∀ p ∈ uPush l a b, U64 p.1 ∧ U64 p.2 := by
  unfold uPush
  split
  · rintro ⟨p, q⟩ hp
    have := List.of_mem_zip hp
    exact ⟨hl _ (List.mem_of_mem_drop (List.mem_of_mem_take this.1)), hl _ (List.mem_of_mem_drop (List.mem_of_mem_take this.2))⟩
  · intro p hp; simp at hp
/-- All words stay words. -/
theorem uni_u : ∀ (f : Nat) (l : List Int) (T : Tr) (s : List (Int × Int)), (∀ x ∈ l, U64 x) → (∀ p ∈ s, U64 p.1 ∧ U64 p.2) → ∀ x ∈ (uni f l T s).2.2.1, U64 x := by
  intro f
  induction f using Nat.strongRecOn with
  | _ f ih =>
    intro l T s hl hs
    cases s with
    | nil => rw [uni_nil]; exact hl
    | cons p s =>
      cases f with
      | zero => rw [uni_zero]; exact hl
      | succ f =>
        obtain ⟨c, d⟩ := p
        have hle := uStep_le l T f (deref l c) (deref l d)
        have hcd := hs (c, d) (by simp)
        have hst := uStep_u (T := T) (f := f) hl (deref_u hl hcd.1) (deref_u hl hcd.2)
        rw [uni_succ]
        split
        · refine ih _ (by omega) _ _ _ hst ?_
          intro p hp
          rcases List.mem_append.1 hp with hp | hp
          · exact uPush_u hl _ _ p hp
          · exact hs p (by simp [hp])
        · exact hst
section
variable {s t : Tm} {s1 s2 : SS} {c1 c2 : Int} {W : Nat → Prop} {ρ : Int → Int}
theorem LaidR.fine1 (h : LaidR s t s1 s2 c1 c2 W ρ) (hms : mayE s = 0) : fine (subst (ren ρ) (cl s)) := fineRen (fun n hn => h.var n (Or.inl hn)) (mayE_zero.1 hms).2
theorem LaidR.fine2 (h : LaidR s t s1 s2 c1 c2 W ρ) (hmt : mayE t = 0) : fine (subst (ren ρ) (cl t)) := fineRen (fun n hn => h.var n (Or.inr hn)) (mayE_zero.1 hmt).2
theorem LaidR.repP (h : LaidR s t s1 s2 c1 c2 W ρ) (hms : mayE s = 0) (hmt : mayE t = 0) : RepP W s2.l s2.L [(c1, c2)] [(subst (ren ρ) (cl s), subst (ren ρ) (cl t))] :=
  ⟨h.u1.1, h.u2.1, h.rep1, h.rep2, h.fine1 hms, h.fine2 hmt, trivial⟩
/-- The run: what is wrong, if anything; behind it. -/
theorem LaidR.run (h : LaidR s t s1 s2 c1 c2 W ρ) (hms : mayE s = 0) (hmt : mayE t = 0) : ∃ ok e L1 T1 f, uni 100000 s2.l [] [(c1, c2)] = (ok, e, L1, T1, f) ∧ (∀ x ∈ L1, U64 x) ∧ T1.length ≤ 100000 ∧ Logs s2.l T1 L1 ∧ UniOk W s2.L s2.l [(subst (ren ρ) (cl s), subst (ren ρ) (cl t))] (ok, e, L1, T1, f) ∧ (ok = true → e = 0) := by
  have h1 := uni_spec (W := W) h.names.nodup 100000 s2.l [] [(c1, c2)] _ h.pos (h.repP hms hmt)
  have h2 := uni_u 100000 s2.l [] [(c1, c2)] h.bnd.l (by intro p hp; simp at hp; subst hp; exact ⟨h.u1, h.u2⟩)
  obtain ⟨N, n1, n2, n3⟩ := uni_logs 100000 s2.l [] [(c1, c2)] h.pos (by intro p hp; simp at hp; subst hp; exact ⟨h.u1.1, h.u2.1⟩)
  have h3 := uni_err 100000 s2.l [] [(c1, c2)]
  generalize uni 100000 s2.l [] [(c1, c2)] = R at *
  obtain ⟨ok, e, L1, T1, f⟩ := R
  simp only [List.nil_append] at n1 n2 n3 h2 h3
  subst n1
  exact ⟨ok, e, L1, T1, f, rfl, h2, by omega, n2, h1, h3⟩
theorem LaidR.twice (h : LaidR s t s1 s2 c1 c2 W ρ) (hms : mayE s = 0) (hmt : mayE t = 0) (hn : nodes (cl s) ≤ 10000) :
    (∃ f, uni 100000 s2.l [] [(c1, c1)] = (true, 0, s2.l, [], f)) ∧
    ((∃ l T f, uni 100000 s2.l [] [(c1, c2)] = (false, 3, l, T, f)) ∨ (∃ l T f, uni 100000 s2.l [] [(c1, c2)] = (false, 0, l, T, f)) ∨
      ∃ L1 T1 f, uni 100000 s2.l [] [(c1, c2)] = (true, 0, L1, T1, f) ∧ (∀ x ∈ L1, U64 x) ∧ T1.length ≤ 100000 ∧ ((∃ f', uni 100000 L1 T1 [(c1, c2)] = (true, 0, L1, T1, f')) ∨ ∃ f', uni 100000 L1 T1 [(c1, c2)] = (false, 3, L1, T1, f'))) := by
  constructor
  · have hs := uni_same (W := W) h.names.nodup 100000 s2.l [] [(c1, c1)] [(subst (ren ρ) (cl s), subst (ren ρ) (cl s))] h.pos ⟨h.u1.1, h.u1.1, h.rep1, h.rep1, h.fine1 hms, h.fine1 hms, trivial⟩ (by simp)
    have he := uni_err 100000 s2.l [] [(c1, c1)]
    have hok := hs.2.2.2 (by simp only [nodesP]; rw [nodes_ren]; omega)
    generalize uni 100000 s2.l [] [(c1, c1)] = R at *
    obtain ⟨ok, e, L1, T1, f⟩ := R
    simp only at hs hok he
    obtain ⟨a, b, _⟩ := hs
    exact ⟨f, by rw [hok, he hok, a, b]⟩
  · obtain ⟨ok, e, L1, T1, f, h1, h2, h3, h4, h5, h6⟩ := h.run hms hmt
    rw [h1]
    cases ok with
    | false =>
      rcases h5.2 rfl with h7 | ⟨h7, _⟩
      · left; exact ⟨L1, T1, f, by simp only at h7; rw [h7]⟩
      · right; left; exact ⟨L1, T1, f, by simp only at h7; rw [h7]⟩
    | true =>
      right; right
      obtain ⟨θ, t1, t2, t3, _⟩ := h5.1 rfl
      simp only at t2
      have hu := t3 _ (List.mem_singleton.2 rfl)
      simp only at hu
      have hr1 := t2 _ _ h.u1.1 h.rep1
      have hr2 := t2 _ _ h.u2.1 h.rep2
      rw [← hu] at hr2
      have hp : Pos L1 := fun x hx => (h2 x hx).1
      have hs := uni_same (W := W) h.names.nodup 100000 L1 T1 [(c1, c2)] [(subst θ (subst (ren ρ) (cl s)), subst θ (subst (ren ρ) (cl s)))] hp ⟨h.u1.1, h.u2.1, hr1, hr2, fine_subst t1 _ (h.fine1 hms), fine_subst t1 _ (h.fine1 hms), trivial⟩ (by simp)
      have he := uni_err 100000 L1 T1 [(c1, c2)]
      refine ⟨L1, T1, f, by rw [h6 rfl], h2, h3, ?_⟩
      generalize uni 100000 L1 T1 [(c1, c2)] = R at *
      obtain ⟨ok', e', L2, T2, f'⟩ := R
      simp only at hs he
      obtain ⟨a, b, c, _⟩ := hs
      subst a b
      rcases c with c | ⟨c, d⟩
      · left; exact ⟨f', by rw [c, he c]⟩
      · right; exact ⟨f', by rw [c, d]⟩
end

end Go.Proofs.Ytlmcfclonncgbaa
