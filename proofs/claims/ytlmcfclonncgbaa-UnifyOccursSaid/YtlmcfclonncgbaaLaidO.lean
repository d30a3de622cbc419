/- A variable and a term laid: does it stand in it; made one. In plain terms. -/
import Derived.Test.YtlmcfclonncgbaaLaidR
namespace Go.Proofs.Ytlmcfclonncgbaa
open Go.RowKit
set_option linter.unusedVariables false
set_option linter.unusedSimpArgs false

theorem cl_kindO {s : Tm} (h : mayE s = 0) : (s.kind = 1 ∧ cl s = .var s.int) ∨ (s.kind = 2 ∧ cl s = .atom s.name) ∨ (s.kind = 3 ∧ cl s = .int s.int) ∨ (s.kind = 4 ∧ cl s = .cpx s.re s.im) ∨ (s.kind = 5 ∧ cl s = .comp s.name (cls s.args)) := by
  have hk := (mayE_zero.1 h).1
  have hk2 : 1 ≤ s.kind ∧ s.kind ≤ 5 := by
    cases hk with
    | leaf a b => exact ⟨a, Int.le_trans b (by decide)⟩
    | comp _ => exact ⟨(by decide : (1 : Int) ≤ 5), (by decide : (5 : Int) ≤ 5)⟩
  cases s with
  | mk k n i re im args => exact cl_cases k n i re im args hk2.1 hk2.2
theorem ren_one (ρ : Int → Int) (n : Int) : subst (ren ρ) (.var n) = .var (ρ n) := rfl
/-- What is said of a variable and a term. -/
structure OccO (s2 : SS) (c1 c2 : Int) (t : Tm) (inn ok : Bool) (L1 : List Int) (T1 : Tr) : Prop where
  occ : ∃ f, occR s2.l c1 c2 = (inn, 0, f)
  uni : ∃ f, uni 100000 s2.l [] [(c1, c2)] = (ok, 0, L1, T1, f)
  okv : ok = (!inn || decide (t.kind = 1))
  u64 : ∀ x ∈ (if ok = true then L1 else s2.l), U64 x
  few : (if ok = true then L1 else s2.l).length ≤ 1048576
  got : ∃ n P, getF (if ok = true then L1 else s2.l) s2.L 500 c2 0 [] = (0, canon (cl t), n, P)
theorem occ_ren {ρ : Int → Int} {n : Int} {t : CT} (h : ∀ a b, (a = n ∨ occ a t) → (b = n ∨ occ b t) → ρ a = ρ b → a = b) : occ (ρ n) (subst (ren ρ) t) ↔ occ n t := by
  rw [occ_subst]
  constructor
  · rintro ⟨m, h1, h2⟩
    have h2 : ρ n = ρ m := h2
    rw [h n m (Or.inl rfl) (Or.inr h1) h2]; exact h1
  · intro h1; exact ⟨n, h1, rfl⟩
theorem LaidR.occO {s t : Tm} {s1 s2 : SS} {c1 c2 : Int} {W : Nat → Prop} {ρ : Int → Int} {n : Int} (h : LaidR s t s1 s2 c1 c2 W ρ) (hs : cl s = .var n) (hms : mayE s = 0) (hmt : mayE t = 0) (inn : Bool) (hin : inn = true ↔ occ n (cl t)) : ∃ ok L1 T1, OccO s2 c1 c2 t inn ok L1 T1 := by
  have hg := (mayE_zero.1 hmt).2
  have hr1 := h.rep1
  rw [hs, ren_one] at hr1
  have hinj : ∀ a b, (a = n ∨ occ a (cl t)) → (b = n ∨ occ b (cl t)) → ρ a = ρ b → a = b := fun a b ha hb => h.inj a b (by rw [hs]; exact ha) (by rw [hs]; exact hb)
  have hoc := occ_ren hinj
  have hf2 := h.fine2 hmt
  have hf1 := h.fine1 hms
  rw [hs, ren_one] at hf1
  obtain ⟨g1, sa⟩ := rep_sh h.pos h.u1.1 hr1
  obtain ⟨g2, sb⟩ := rep_sh h.pos h.u2.1 h.rep2
  have ia := sh_is hf1 sa
  have ib := sh_is hf2 sb
  have va := sh_var hf1 sa
  have vb := sh_var hf2 sb
  have va' : varB s2.l (deref s2.l c1) = true := va
  rw [isVar_ren] at vb
  have hda : deref s2.l (deref s2.l c1) = deref s2.l c1 := deref_self h.bnd.l (deref_u h.bnd.l h.u1).1 ia
  have da0 := (deref_u h.bnd.l h.u1)
  have db0 := (deref_u h.bnd.l h.u2)
  obtain ⟨p, hp, hp1, hp2, hp3, hpd⟩ := sa
  have hnodes : nodes (subst (ren ρ) (cl t)) ≤ 2000 := by rw [nodes_ren]; exact hg.2.2
  have told2 : ∀ L, Pos L → rep W L s2.L (subst (ren ρ) (cl t)) c2 → ∃ k P, getF L s2.L 500 c2 0 [] = (0, canon (cl t), k, P) := fun L hL hr => ⟨_, _, told hL h.bnd.names hr h.u2.1 hg (fun n hn => h.var n (Or.inr hn)) (fun a b ha hb => h.inj a b (Or.inr ha) (Or.inr hb))⟩
  obtain ⟨o1, o2, o3⟩ := occ_spec (W := W) (L := s2.L) (p := p) h.pos 100000 [c2] [subst (ren ρ) (cl t)] ⟨h.u2.1, h.rep2, hf2, trivial⟩
  obtain ⟨e0, e1⟩ := o3 (by simp only [nodesL]; omega)
  have hocc1 : occR s2.l c1 c2 = (inn, 0, (occF s2.l ((p : Int) * 8) 100000 [c2]).2.2) := by
    unfold occR
    rw [if_pos va', hpd]
    have hi := o2 e0
    generalize occF s2.l ((p : Int) * 8) 100000 [c2] = r at *
    obtain ⟨r1, r2, r3⟩ := r
    simp only at e0 hi ⊢
    rw [e0]
    congr 1
    have : r1 = true ↔ inn = true := by
      rw [hi, hin, ← hoc, hp]
      simp [occs]
    cases r1 <;> cases inn <;> simp_all
  obtain ⟨q1, q2, q3⟩ := occ_spec (W := W) (L := s2.L) (p := p) h.pos 99999 [deref s2.l c2] [subst (ren ρ) (cl t)] ⟨db0.1, sh_rep (isB_ch ib) sb, hf2, trivial⟩
  obtain ⟨k0, k1⟩ := q3 (by simp only [nodesL]; omega)
  have hi2 : (occF s2.l ((p : Int) * 8) 99999 [deref s2.l c2]).1 = true ↔ inn = true := by
    rw [q2 k0, hin, ← hoc, hp]; simp [occs]
  have hu1 := uni_succ 99999 s2.l [] c1 c2 []
  rw [show (99999 + 1 : Nat) = 100000 from rfl] at hu1
  have hkd := cl_kindO hmt
  cases hv : isVar (cl t) with
  | false =>
    rw [hv] at vb
    have hk1 : t.kind ≠ 1 := by
      intro e
      rcases cl_kindO hmt with ⟨a, b⟩ | ⟨a, b⟩ | ⟨a, b⟩ | ⟨a, b⟩ | ⟨a, b⟩ <;> first | omega | skip
      rw [b] at hv; cases hv
    have hst : uStep s2.l [] 99999 (deref s2.l c1) (deref s2.l c2) = bindS s2.l [] (deref s2.l c1) (deref s2.l c2) (occF s2.l (deref s2.l c1) 99999 [deref s2.l c2]) := by
      unfold uStep
      rw [if_neg (by rw [ia, ib]; simp), va', vb]
      simp
    rw [hst, hpd] at hu1
    rw [hpd] at va' ia da0
    generalize occF s2.l ((p : Int) * 8) 99999 [deref s2.l c2] = r at *
    cases inn with
    | true =>
      have hbs : bindS s2.l [] ((p : Int) * 8) (deref s2.l c2) r = (false, 0, s2.l, [], r.2.2) := by
        unfold bindS; rw [if_pos (Or.inl (hi2.2 rfl)), k0]
      rw [hbs, if_neg (by simp)] at hu1
      exact ⟨false, s2.l, [], ⟨_, hocc1⟩, ⟨_, hu1⟩, by simp [hk1], by simpa using h.bnd.l, by simpa using h.bnd.few, by simpa using told2 _ h.pos h.rep2⟩
    | false =>
      have hr1' : r.1 = false := by
        cases e : r.1
        · rfl
        · exact absurd (hi2.1 e) (by decide)
      have hbs : bindS s2.l [] ((p : Int) * 8) (deref s2.l c2) r = (true, 0, bindL s2.l ((p : Int) * 8) (deref s2.l c2), bindT s2.l [] ((p : Int) * 8) (deref s2.l c2), r.2.2) := by
        unfold bindS; rw [if_neg (by rw [hr1', k0]; simp)]
      rw [hbs, if_pos rfl, uPush_l (Or.inl (by omega)), List.nil_append] at hu1
      simp only at hu1
      rw [uni_nil] at hu1
      have hne : (p : Int) * 8 ≠ deref s2.l c2 := by
        intro e
        rw [← e, va'] at vb
        cases vb
      obtain ⟨p', x, hB, e3, e4⟩ := bind_bnd da0.1 db0.1 va' ib hne
      rw [bindP_nv vb] at e3 e4
      simp only at e3 e4
      obtain rfl : p' = p := by omega
      subst e4
      have hno : ¬ occ p' (subst (ren ρ) (cl t)) := by
        rw [← hp, hoc]
        intro ho
        exact absurd (hin.2 ho) (by decide)
      have hrs := rep_set (W := W) (L := s2.L) h.pos db0.1 hp3 hp1 hp2 (sh_rep (isB_ch ib) sb) hno _ _ h.u2.1 h.rep2
      rw [subst_one_not hno, ← hB.eq] at hrs
      refine ⟨true, _, _, ⟨_, hocc1⟩, ⟨_, hu1⟩, by simp, ?_, ?_, ?_⟩
      · simpa using bindL_u h.bnd.l da0 db0
      · rw [if_pos rfl, hB.length]; exact h.bnd.few
      · rw [if_pos rfl]; exact told2 _ (hB.hpos h.pos) hrs
  | true =>
    rw [hv] at vb
    obtain ⟨m, hm⟩ : ∃ m, cl t = .var m := by
      cases e : cl t <;> rw [e] at hv <;> first | exact ⟨_, rfl⟩ | cases hv
    have hk1 : t.kind = 1 := by
      rcases cl_kindO hmt with ⟨a, b⟩ | ⟨a, b⟩ | ⟨a, b⟩ | ⟨a, b⟩ | ⟨a, b⟩ <;> first | exact a | (rw [b] at hm; cases hm)
    have hst : uStep s2.l [] 99999 (deref s2.l c1) (deref s2.l c2) = (true, 0, bindL s2.l (deref s2.l c1) (deref s2.l c2), bindT s2.l [] (deref s2.l c1) (deref s2.l c2), 99999) := by
      unfold uStep
      rw [if_neg (by rw [ia, ib]; simp), va', vb]
      simp
    rw [hst, if_pos rfl, uPush_l (Or.inl (by rw [hpd]; omega)), List.nil_append] at hu1
    simp only at hu1
    rw [uni_nil] at hu1
    have hbu := bindL_u h.bnd.l da0 db0
    have hbl : (bindL s2.l (deref s2.l c1) (deref s2.l c2)).length = s2.l.length := by unfold bindL; split <;> simp
    refine ⟨true, _, _, ⟨_, hocc1⟩, ⟨_, hu1⟩, by simp [hk1], by simpa using hbu, by rw [if_pos rfl, hbl]; exact h.bnd.few, ?_⟩
    rw [if_pos rfl]
    have hpos1 : Pos (bindL s2.l (deref s2.l c1) (deref s2.l c2)) := fun x hx => (hbu x hx).1
    -- what the second cell stands for: a variable
    have hvar : ∃ r : Int, 0 ≤ r ∧ rep W (bindL s2.l (deref s2.l c1) (deref s2.l c2)) s2.L (.var r) c2 := by
      obtain ⟨θ, t1, t2, t3, _⟩ := ((uni_spec (W := W) h.names.nodup 100000 s2.l [] [(c1, c2)] _ h.pos (h.repP hms hmt)).1 (by rw [hu1]))
      have z := t2 _ _ h.u2.1 h.rep2
      rw [hu1] at z
      simp only at z
      have hu := t3 _ (List.mem_singleton.2 rfl)
      simp only at hu
      have hsh := (rep_sh hpos1 h.u2.1 z).2
      -- the end is a variable's
      have : isVar (subst θ (subst (ren ρ) (cl t))) = true := by
        by_cases hne : deref s2.l c1 = deref s2.l c2
        · have e5 : bindL s2.l (deref s2.l c1) (deref s2.l c2) = s2.l := by unfold bindL; rw [if_pos hne]
          rw [e5] at hsh
          have h6 := sh_var (by exact fine_subst t1 _ hf2) hsh
          rw [vb] at h6
          exact h6.symm
        · obtain ⟨p', x, hB, e3, e4⟩ := bind_bnd da0.1 db0.1 va' ib hne
          have hxv : varB s2.l x = true := by
            rw [e4]; unfold bindP; split
            · exact va'
            · exact vb
          have hch := (hB.ch h.pos h.u2.1 (sh_is (by exact fine_subst t1 _ hf2) hsh)).1 (rep_sh hpos1 h.u2.1 z).1
          obtain ⟨d, d1, d2, d3⟩ := hch
          have hdd : d = deref s2.l c2 := d2.det g2
          have h6 := sh_var (by exact fine_subst t1 _ hf2) hsh
          rw [← h6, d3]
          have hx8 : ∀ y, varB s2.l y = true → 0 ≤ y → y ≠ (p' : Int) * 8 → varB (bindL s2.l (deref s2.l c1) (deref s2.l c2)) y = true := by
            intro y hy hy0 hyn
            obtain ⟨q, rfl, hq1, hq2⟩ := (varB_iff hy0).1 hy
            exact (varB_iff hy0).2 ⟨q, rfl, by rw [hB.length]; exact hq1, by rw [hB.other (by omega)]; exact hq2⟩
          split
          · exact hx8 x hxv hB.pos hB.ne
          · rename_i hd8
            rw [hdd] at hd8 ⊢
            exact hx8 _ vb db0.1 hd8
      cases e : subst θ (subst (ren ρ) (cl t)) <;> rw [e] at this z <;> first | (cases this; done) | skip
      rename_i r
      exact ⟨r, (by obtain ⟨pp, hh, _⟩ := z; omega), z⟩
    obtain ⟨r, hr0, hr⟩ := hvar
    have e6 : (.var r : CT) = subst (ren (fun _ => r)) (cl t) := by rw [hm]; rfl
    rw [e6] at hr
    exact ⟨_, _, told hpos1 h.bnd.names hr h.u2.1 hg (fun n hn => hr0) (fun a b ha hb _ => by rw [hm] at ha hb; have ha : a = m := ha; have hb : b = m := hb; rw [ha, hb])⟩
end Go.Proofs.Ytlmcfclonncgbaa
