/- Texts that stand together: Unify, TwoPut, Laid, Awake8. -/
import Derived.Test.YtlmcfclonncgbaaVUni
import Derived.Test.YtlmcfclonncgbaaTrail2
import Derived.Test.YtlmcfclonncgbaaPk8
import Derived.Test.YtlmcfclonncgbaaPk10
import Derived.Test.YtlmcfclonncgbaaPutLen
import Derived.Test.YtlmcfclonncgbaaPk6
import Derived.Test.YtlmcfclonncgbaaPk3
import Derived.Test.YtlmcfclonncgbaaGet
import Derived.Test.YtlmcfclonncgbaaLike
/- Unify, Occurs (package unify). -/
namespace Go.Proofs.Ytlmcfclonncgbaa
open Go.RowKit
set_option linter.unusedVariables false
set_option linter.unusedSimpArgs false

theorem setL_at {l : List Int} {p : Nat} {x : Int} (h : p < l.length) : setL l (p : Int) x = l.set p x := by
  unfold setL; rw [inB_true (by omega) (by omega), if_pos rfl]; simp
theorem logs_undo {l m : List Int} {N : Tr} (h : Logs l N m) : undoL m N.reverse = l := by
  induction h with
  | nil _ => rfl
  | @cons l l' l'' p x N hb hr ih =>
    rw [List.reverse_cons, undoL_snoc, ih]
    simp only
    rw [setL_at (by rw [hb.length]; exact hb.lt), hb.eq]
    apply List.ext_getElem?
    intro j
    rw [List.getElem?_set]
    by_cases hj : p = j
    · subst hj
      rw [if_pos rfl, if_pos (by rw [List.length_set]; exact hb.lt)]
      simp [List.getD, List.getElem?_eq_getElem hb.lt]
    · rw [if_neg hj, List.getElem?_set, if_neg hj]
theorem tundo_logs (own : Nat → Nat) (idh id ph p : Nat) (most : Int) (l m : List Int) (T N : Tr) (w : World) (hh : HP own idh w ph most m) (h : TP own id w p (T ++ N)) (hid : idh ≠ id) (hL : (T ++ N).length < 1000000000) (hN : Logs l N m) :
    Calls Try.prog 70 #[.pointer (some ⟨p, 0, none⟩), .pointer (some ⟨ph, 0, none⟩), .int .i64 T.length] w (Does own [idh, id] w fun own' e w' => (∃ v, e = .returned v) ∧ HP own' idh w' ph most l ∧ TP own' id w' p T) := by
  cases N with
  | nil =>
    cases hN
    rw [List.append_nil] at h hL
    refine (tundo_out own id p _ _ T w h (Or.inr (by omega)) (by omega) (by omega) hL).mono ?_
    rintro e w' ⟨rfl, n, rfl⟩
    exact ⟨own, (Ext.refl _ _ _).drewN _, ⟨_, rfl⟩, hh.dr n, h.dr n⟩
  | cons a N =>
    refine (tundo_in own idh id ph p most _ m (T ++ a :: N) w hh h hid (by omega) (by simp; omega) hL).mono ?_
    rintro e w' ⟨own', x, rfl, h1, h2⟩
    rw [Int.toNat_natCast] at h1 h2
    rw [List.drop_left, logs_undo hN] at h1
    rw [List.take_left] at h2
    exact ⟨own', x, ⟨_, rfl⟩, h1, h2⟩
set_option maxHeartbeats 2000000 in
set_option maxRecDepth 100000 in
theorem uunify_any (own : Nat → Nat) (idh idt : Nat) (hid : idh ≠ idt) (w : World) (ph pt : Nat) (most a b : Int) (l : List Int) (T : Tr) (hh : HP own idh w ph most l) (ht : TP own idt w pt T) (ha : 0 ≤ a ∧ a < 18446744073709551616) (hb : 0 ≤ b ∧ b < 18446744073709551616)
    (hl0 : ∀ x ∈ l, 0 ≤ x ∧ x < 18446744073709551616) (hT : T.length < 800000000) :
    Calls Try.prog 65 #[.pointer (some ⟨ph, 0, none⟩), .pointer (some ⟨pt, 0, none⟩), .int .u64 a, .int .u64 b] w
      (Does own [idh, idt] w fun own' e w' => e = .returned (.tuple #[.bool (uni 100000 l T [(a, b)]).1, .int .i64 (uni 100000 l T [(a, b)]).2.1]) ∧ HP own' idh w' ph most (if (uni 100000 l T [(a, b)]).1 = true then (uni 100000 l T [(a, b)]).2.2.1 else l) ∧ TP own' idt w' pt (if (uni 100000 l T [(a, b)]).1 = true then (uni 100000 l T [(a, b)]).2.2.2.1 else T)) := by
  obtain ⟨F0, hF0, hFF⟩ := own_ne own w.heap.size
  obtain ⟨F, hF⟩ : ∃ F, F0 + idh + idt + 1 = F := ⟨_, rfl⟩
  have hlt : ∀ b, b < w.heap.size → own b < F := fun b hb => by have := hFF b hb; omega
  have hlogs := uni_logs 100000 l T [(a, b)] (fun x hx => (hl0 x hx).1) (by intro p hp; simp at hp; subst hp; exact ⟨ha.1, hb.1⟩)
  have hmk := tmark_any own idt pt T w ht
  obtain ⟨R, hR⟩ : ∃ R, uni 100000 l T [(a, b)] = R := ⟨_, rfl⟩
  rw [hR] at hlogs ⊢
  have HI := Lib.hid (And.intro hh (And.intro ht (And.intro (And.intro ha hb) (And.intro hl0 (And.intro hid hT)))))
  have HF := Lib.hid (And.intro hlt (show F ≠ idh ∧ F ≠ idt by omega))
  have HRR := Lib.hid hR
  have HMK := Lib.hid hmk
  obtain ⟨R1, R2, Rl, RT, Rf⟩ := R
  obtain ⟨N, n1, n2, n3⟩ := hlogs
  simp only at n1 n2 n3 ⊢
  subst n1
  have HN := Lib.hid (And.intro n2 n3)
  clear hlt hFF hF hF0 hmk hR hh ht ha hb hl0 hT hid n2 n3
  by_cases h1 : R1 = true
  · subst h1
    rw [if_pos rfl, if_pos rfl]
    go_enter Try.func65, Try.ntmps65
    go_wp2_with (first
      | (go_at_call 101; refine Calls.mono HUN.out ?_; rintro e9 w4 ⟨own4, x4, (rfl : e9 = .returned (.tuple #[.bool true, .int .i64 R2])), hb4, h4, t4⟩)
      | (go_at_call 100; refine Calls.mono HMK.out ?_; rintro e9 w2 ⟨rfl, nm, rfl⟩; obtain ⟨W3, hW3⟩ : ∃ W, (w.drewN nm).alloc (.cells #[.pointer (some ⟨ph, 0, none⟩), .pointer (some ⟨pt, 0, none⟩), .int .i64 0] 162) = W := ⟨_, rfl⟩; obtain ⟨o1, x1, kv, y1⟩ := boxU (Ext.refl own [idh, idt, F] (w.drewN nm)) [.pointer (some ⟨ph, 0, none⟩), .pointer (some ⟨pt, 0, none⟩), .int .i64 0] 162 F W3 hW3; have kv' : VB o1 F W3 w.heap.size ph (.pointer (some ⟨pt, 0, none⟩)) (100000 - 100000) := kv; have hun := vunify_any o1 F idh idt (by have := HF.out.2; omega) (by have := HF.out.2; omega) HI.out.2.2.2.2.1 W3 w.heap.size ph pt 100000 most a b l T (Nat.le_refl _) kv' ((HI.out.1.dr nm).keep y1 (by simp)) ((HI.out.2.1.dr nm).keep y1 (by simp)) HI.out.2.2.1.1 HI.out.2.2.1.2 HI.out.2.2.2.1 (by have := HI.out.2.2.2.2.2; omega); rw [HRR.out] at hun; have HUN := Lib.hid hun; clear hun kv kv'))
    go_ret2
    exact ⟨own4, (((Ext.refl own [idh, idt, F] w).drewN nm).trans (x1.trans (x4.mono (by simp)))).without F HF.out.1 (by simp), rfl, h4, t4⟩
  · have h1' : R1 = false := by simpa using h1
    subst h1'
    rw [if_neg (by decide), if_neg (by decide)]
    go_enter Try.func65, Try.ntmps65
    go_wp2_with (first
      | (go_at_call 70; refine Calls.mono HUD.out ?_; rintro e9 w5 ⟨own5, x5, ⟨v5, rfl⟩, h5, t5⟩)
      | (go_at_call 101; refine Calls.mono HUN.out ?_; rintro e9 w4 ⟨own4, x4, (rfl : e9 = .returned (.tuple #[.bool false, .int .i64 R2])), hb4, h4, t4⟩; have HUD := Lib.hid (tundo_logs own4 idh idt ph pt most l Rl T N w4 h4 t4 HI.out.2.2.2.2.1 (by rw [List.length_append]; have := HN.out.2; have := HI.out.2.2.2.2.2; omega) HN.out.1))
      | (go_at_call 100; refine Calls.mono HMK.out ?_; rintro e9 w2 ⟨rfl, nm, rfl⟩; obtain ⟨W3, hW3⟩ : ∃ W, (w.drewN nm).alloc (.cells #[.pointer (some ⟨ph, 0, none⟩), .pointer (some ⟨pt, 0, none⟩), .int .i64 0] 162) = W := ⟨_, rfl⟩; obtain ⟨o1, x1, kv, y1⟩ := boxU (Ext.refl own [idh, idt, F] (w.drewN nm)) [.pointer (some ⟨ph, 0, none⟩), .pointer (some ⟨pt, 0, none⟩), .int .i64 0] 162 F W3 hW3; have kv' : VB o1 F W3 w.heap.size ph (.pointer (some ⟨pt, 0, none⟩)) (100000 - 100000) := kv; have hun := vunify_any o1 F idh idt (by have := HF.out.2; omega) (by have := HF.out.2; omega) HI.out.2.2.2.2.1 W3 w.heap.size ph pt 100000 most a b l T (Nat.le_refl _) kv' ((HI.out.1.dr nm).keep y1 (by simp)) ((HI.out.2.1.dr nm).keep y1 (by simp)) HI.out.2.2.1.1 HI.out.2.2.1.2 HI.out.2.2.2.1 (by have := HI.out.2.2.2.2.2; omega); rw [HRR.out] at hun; have HUN := Lib.hid hun; clear hun kv kv'))
    go_ret2
    exact ⟨own5, ((((Ext.refl own [idh, idt, F] w).drewN nm).trans (x1.trans (x4.mono (by simp)))).trans (x5.mono (by simp))).without F HF.out.1 (by simp), rfl, h5, t5⟩
theorem uunify_nilh (t : Option Addr) (a b : Int) (w : World) : Calls Try.prog 65 #[.pointer none, .pointer t, .int .u64 a, .int .u64 b] w (Quiet w (.tuple #[.bool false, .int .i64 1])) := by
  go_enter Try.func65, Try.ntmps65
  go_wp2_with fail
  go_ret2
  exact ⟨rfl, 0, rfl⟩
theorem uunify_nilt (ph : Nat) (a b : Int) (w : World) : Calls Try.prog 65 #[.pointer (some ⟨ph, 0, none⟩), .pointer none, .int .u64 a, .int .u64 b] w (Quiet w (.tuple #[.bool false, .int .i64 1])) := by
  go_enter Try.func65, Try.ntmps65
  go_wp2_with fail
  go_ret2
  exact ⟨rfl, 0, rfl⟩
theorem uoccurs_nil (a b : Int) (w : World) : Calls Try.prog 80 #[.pointer none, .int .u64 a, .int .u64 b] w (Quiet w (.tuple #[.bool false, .int .i64 1])) := by
  go_enter Try.func80, Try.ntmps80
  go_wp2_with fail
  go_ret2
  exact ⟨rfl, 0, rfl⟩
/-- What Occurs answers. -/
def occR (l : List Int) (x c : Int) : Bool × Int × Nat := if varB l (deref l x) then occF l (deref l x) 100000 [c] else (false, 0, 0)
set_option maxHeartbeats 2000000 in
set_option maxRecDepth 100000 in
theorem uoccurs_any (own : Nat → Nat) (idh : Nat) (w : World) (ph : Nat) (most x c : Int) (l : List Int) (hh : HP own idh w ph most l) (hx : 0 ≤ x ∧ x < 18446744073709551616) (hc : 0 ≤ c ∧ c < 18446744073709551616) (hl0 : ∀ x ∈ l, 0 ≤ x ∧ x < 18446744073709551616) :
    Calls Try.prog 80 #[.pointer (some ⟨ph, 0, none⟩), .int .u64 x, .int .u64 c] w (Does own [] w fun own' e w' => e = .returned (.tuple #[.bool (occR l x c).1, .int .i64 (occR l x c).2.1])) := by
  obtain ⟨F0, hF0, hFF⟩ := own_ne own w.heap.size
  obtain ⟨F, hF⟩ : ∃ F, F0 + idh + 1 = F := ⟨_, rfl⟩
  have hlt : ∀ b, b < w.heap.size → own b < F := fun b hb => by have := hFF b hb; omega
  obtain ⟨w1, hw1⟩ : ∃ W, w.alloc (.cells #[.pointer (some ⟨ph, 0, none⟩), .pointer none, .int .i64 0] 162) = W := ⟨_, rfl⟩
  obtain ⟨o1, x1, kv, y1⟩ := boxU (Ext.refl own [F] w) [.pointer (some ⟨ph, 0, none⟩), .pointer none, .int .i64 0] 162 F w1 hw1
  replace hh := hh.keep y1 (by simp)
  have hDr := derefF_rng hl0 (by decide) l.length x hx
  change 0 ≤ deref l x ∧ deref l x < 18446744073709551616 at hDr
  have hda := deref_any o1 idh ph most x l w1 hh hx.1 (fun x hx => (hl0 x hx).1)
  have kv' : VB o1 F w1 w.heap.size ph (.pointer none) (100000 - 100000) := kv
  unfold occR
  generalize deref l x = D at *
  have hva := fun k => vvariable_any o1 F idh (w1.drewN k) w.heap.size ph (100000 - 100000) (.pointer none) most D l (kv'.dr k) (hh.dr k) hDr.1 hDr.2
  have hoc := fun k => voccurs_any o1 F idh (by omega) (w1.drewN k) w.heap.size ph 100000 (.pointer none) most D c l (Nat.le_refl _) (kv'.dr k) (hh.dr k) hDr hc hl0
  have HDA := Lib.hid hda
  have HOC := Lib.hid hoc
  have HX := Lib.hid (And.intro x1 hlt)
  clear hFF hF hF0 hlt hda hoc x1 kv kv' y1 hh
  by_cases h1 : varB l D = true
  · rw [h1] at hva
    rw [if_pos h1]
    have HVA := Lib.hid hva
    clear hva
    go_enter Try.func80, Try.ntmps80
    go_wp2_with (first
      | (go_at_call 109; refine Calls.mono HDA.out ?_; rintro e9 w2 ⟨rfl, nd, rfl⟩)
      | (go_at_call 110; refine Calls.mono (HVA.out _) ?_; rintro e9 w2 ⟨rfl, nv, rfl⟩)
      | (go_at_call 116; refine Calls.mono (HOC.out _) ?_; rintro e9 w2 ⟨own2, x2, rfl, hb2⟩))
    go_ret2
    exact ⟨own2, (HX.out.1.trans (((Ext.refl o1 [F] w1).drewN _).trans x2)).without F HX.out.2 (by simp), rfl⟩
  · have h1' : varB l D = false := by simpa using h1
    rw [h1'] at hva
    rw [if_neg h1]
    have HVA := Lib.hid hva
    clear hva
    go_enter Try.func80, Try.ntmps80
    go_wp2_with (first
      | (go_at_call 109; refine Calls.mono HDA.out ?_; rintro e9 w2 ⟨rfl, nd, rfl⟩)
      | (go_at_call 110; refine Calls.mono (HVA.out _) ?_; rintro e9 w2 ⟨rfl, nv, rfl⟩))
    go_ret2
    exact ⟨o1, (HX.out.1.drewN _).without F HX.out.2 (by simp), rfl⟩

end Go.Proofs.Ytlmcfclonncgbaa
/- Two terms laid with the same variables: what they stand for. In plain terms. -/
namespace Go.Proofs.Ytlmcfclonncgbaa
open Go.RowKit
set_option linter.unusedVariables false
set_option linter.unusedSimpArgs false

/-- What is said of two terms, one behind the other, with the same variables. -/
structure Laid (s t : CT) (r1 r2 : SS × Int × Int) (W : Nat → Prop) (ρ : Int → Int) : Prop where
  err1 : r1.2.2 = 0
  err2 : r2.2.2 = 0
  c1 : U64 r1.2.1
  c2 : U64 r2.2.1
  rep1 : rep W r2.1.l r2.1.L (subst (ren ρ) s) r1.2.1
  rep2 : rep W r2.1.l r2.1.L (subst (ren ρ) t) r2.2.1
  var : ∀ n, occ n s ∨ occ n t → 0 ≤ ρ n
  inj : InjOn ρ (fun a => occ a s ∨ occ a t)
  pos : Pos r2.1.l
  names : Names r2.1.L
  bnd1 : Bnd r1.1
  bnd2 : Bnd r2.1
  vl1 : r1.1.V.length ≤ nodes s
theorem laid_ok {most : Int} (hm : most ≤ 1048576) {s t : CT} (hs : Good s) (ht : Good t) (rs : ranged s) (rt : ranged t) (hroom : 3 * nodes s + 3 * nodes t + 2 ≤ most) (hfew : nodes s + nodes t ≤ 4000) :
    ∃ W ρ, Laid s t (putT most s (-1) ⟨[], names0, []⟩) (putT most t (-1) (putT most s (-1) ⟨[], names0, []⟩).1) W ρ := by
  have z1 := size_le s
  have z2 := topv_1 [] s
  have z3 := size_le t
  obtain ⟨W1, E1, m1, M1, h⟩ := putT_ok most s (-1) ⟨[], names0, []⟩ (fun _ => False) (fun n => .var n) (fun _ => False) (inv_none (fun _ => False) (l := []) (fun x hx => by simp at hx) names0_ok) hs.1 rs (fun p hp => by omega) (by rw [if_pos (by decide)]; dsimp only; simp only [List.length_nil]; omega) (by dsimp only; have : names0.length = 2 := rfl; omega)
  obtain ⟨b1, u1⟩ := putT_bnd hm s (-1) ⟨[], names0, []⟩ hs.1 rs (by decide) bnd_none
  have hl1 := h.len
  have hL1 := h.L
  have hll := h.l
  have hv := putT_vl most s (-1) ⟨[], names0, []⟩
  generalize putT most s (-1) ⟨[], names0, []⟩ = r1 at *
  have z4 := topv_1 r1.1.V t
  rw [if_pos (by decide)] at hl1
  have e1 : r1.1.l.length = m1.length := by rw [hll]; simp
  have e2 : r1.1.L.length ≤ 2 + nodes s := by rw [hL1, List.length_append]; have := h.few; have : names0.length = 2 := rfl; simp only; omega
  simp only at hl1
  obtain ⟨W2, E2, m2, M2, k⟩ := putT_ok most t (-1) r1.1 W1 E1 (fun _ => False) (inv_end h.inv (fun _ hp => hp)) ht.1 rt (fun p hp => by omega) (by rw [if_pos (by decide)]; omega) (by omega)
  obtain ⟨b2, u2⟩ := putT_bnd hm t (-1) r1.1 ht.1 rt (by decide) b1
  have hst := (h.step.trans k.step (Nat.zero_le _)).mono (Nat.le_refl _) (us := fun n => occ n (.comp ByteArray.empty [s, t])) (fun n => by simp [occ, occs])
  obtain ⟨ρ, p1, p2, p3⟩ := step_ren hst
  have es : subst E1 s = subst (ren ρ) s := subst_congr s (fun n hn => by
    obtain ⟨c, hc⟩ := h.step.met n hn
    rw [← (k.step.old n c hc).2]
    exact (p2 n (Or.inl hn)).2)
  have et : subst E2 t = subst (ren ρ) t := subst_congr t (fun n hn => (p2 n (Or.inr (Or.inl hn))).2)
  have hg2 := rep_grow (m := m2) (M := M2) h.inv.pos k.step.raw _ _ h.pos h.rep
  rw [← k.l, ← k.L, es] at hg2
  have hr2 := k.rep
  rw [et] at hr2
  refine ⟨W2, ρ, h.err, k.err, u1, u2, hg2, hr2, fun n hn => (p2 n (hn.imp id Or.inl)).1, fun a b ha hb => p3 a b (ha.imp id Or.inl) (hb.imp id Or.inl), k.inv.pos, k.inv.names, b1, b2, by simpa using hv⟩
end Go.Proofs.Ytlmcfclonncgbaa
/- Two terms on one heap (elenchuslaw8's laid). -/
namespace Go.Proofs.Ytlmcfclonncgbaa
open Go.RowKit
set_option linter.unusedVariables false
set_option linter.unusedSimpArgs false

theorem results_tmp5 {fn : Func} {t u v x y : Tmp} (h : fn.results = #[.tmp t, .tmp u, .tmp v, .tmp x, .tmp y]) (tmps : Array Value) (P : Program) (w : World) :
    (results fn tmps).run P w = .ok (.tuple #[tmps.getD t undef, tmps.getD u undef, tmps.getD v undef, tmps.getD x undef, tmps.getD y undef]) w := by
  simp [results, h]
set_option maxRecDepth 100000 in
set_option maxHeartbeats 4000000 in
theorem laid_any (ih ia im iv it : Nat) (hi : 0 < ih ∧ ih < ia ∧ ia < im ∧ im < iv ∧ iv < it) (own : Nat → Nat) (w : World) (s t : Tm) (ss st : Value) (hTs : TmS own w s ss) (hTt : TmS own w t st) (s1 s2 : SS) (c1 c2 : Int) (hp1 : putR 20000 s ⟨[], names0, []⟩ = (s1, c1, 0)) (hp2 : putR 20000 t s1 = (s2, c2, 0)) (hvl : s1.V.length < 900000) :
    Calls Try.prog 68 #[valT s ss, valT t st] w (Does own [ih, ia, im, iv, it] w fun own' e w' => ∃ p pt pr : Nat, e = .returned (.tuple #[.pointer (some ⟨p, 0, none⟩), .pointer (some ⟨pt, 0, none⟩), .pointer (some ⟨pr, 0, none⟩), .int .u64 c1, .int .u64 c2]) ∧ HP own' ih w' p 20000 s2.l ∧ TabP own' ia im w' pt s2.L ∧ TP own' it w' pr []) := by
  have hmm := @run_makeMap Try.prog
  obtain ⟨As, ls, cs, rfl, _⟩ := hTs.args
  obtain ⟨At, lt, ct, rfl, _⟩ := hTt.args
  rw [show valT s (.slice As ls cs) = .agg #[.int .i64 s.kind, .string s.name, .int .i64 s.int, .int .u64 s.re, .int .u64 s.im, .slice As ls cs] from rfl, show valT t (.slice At lt ct) = .agg #[.int .i64 t.kind, .string t.name, .int .i64 t.int, .int .u64 t.re, .int .u64 t.im, .slice At lt ct] from rfl]
  obtain ⟨wa, hwa⟩ : ∃ W, w.alloc (.cells #[.int .i64 s.kind, .string s.name, .int .i64 s.int, .int .u64 s.re, .int .u64 s.im, .slice As ls cs] 25) = W := ⟨_, rfl⟩
  obtain ⟨oa, xa, kSa, ya⟩ := boxU (Ext.refl own [ih, ia, im, iv, it] w) [.int .i64 s.kind, .string s.name, .int .i64 s.int, .int .u64 s.re, .int .u64 s.im, .slice As ls cs] 25 0 wa hwa
  obtain ⟨w0, hw0⟩ : ∃ W, wa.alloc (.cells #[.int .i64 t.kind, .string t.name, .int .i64 t.int, .int .u64 t.re, .int .u64 t.im, .slice At lt ct] 25) = W := ⟨_, rfl⟩
  obtain ⟨own0', X0, kT0, x0⟩ := boxU xa [.int .i64 t.kind, .string t.name, .int .i64 t.int, .int .u64 t.re, .int .u64 t.im, .slice At lt ct] 25 0 w0 hw0
  have kS0 := kSa.keep x0 (by simp)
  have hTs0 := TmS.keep x0 (by simp) _ _ (TmS.keep ya (by simp) _ _ hTs)
  have hTt0 := TmS.keep x0 (by simp) _ _ (TmS.keep ya (by simp) _ _ hTt)
  clear xa kSa ya x0 hTs hTt
  go_enter Try.func68, Try.ntmps68
  go_wp2_with fail
  refine (new_any own0' ih 20000 _).mono ?_
  rintro e1 w1 ⟨own1, x1, rfl, hlt1, h1⟩
  obtain ⟨p, hp⟩ : ∃ p, w0.heap.size = p := ⟨_, rfl⟩
  rw [hp] at h1 ⊢
  go_wp2_with fail
  refine (anew_any own1 ia im _ (by omega)).mono ?_
  rintro e2 w2 ⟨own2, pt, x2, rfl, hle2, hlt2, t2⟩
  obtain ⟨y3, m3⟩ := MV.new own2 iv w2 Try.prog .i64 .u64 2 34
  obtain ⟨w3, hw3⟩ : ∃ W, w2.alloc (.map #[] 0) = W := ⟨_, rfl⟩
  obtain ⟨own3, ho3⟩ : ∃ o, give own2 w2.heap.size iv = o := ⟨_, rfl⟩
  obtain ⟨pm, hpm⟩ : ∃ p, w2.heap.size = p := ⟨_, rfl⟩
  rw [hw3, ho3] at y3 m3
  rw [hpm] at m3
  have x03 : Ext own0' own3 [] w0 w3 := (x1.trans x2).trans y3
  have X3 := X0.trans (x03.mono (jds := [ih, ia, im, iv, it]) (by simp))
  have h3 : HP own3 ih w3 p 20000 [] := (h1.keep x2 (by simp)).keep y3 (by simp)
  have t3 := t2.keep y3 (by simp) (by simp)
  have kS3 := kS0.keep x03 (by simp)
  have kT3 := kT0.keep x03 (by simp)
  have hTs3 := TmS.keep x03 (by simp) _ _ hTs0
  have hTt3 := TmS.keep x03 (by simp) _ _ hTt0
  have d0S3 := kS3.cell 0 rfl; have d0T3 := kT3.cell 0 rfl; have d1S3 := kS3.cell 1 rfl; have d1T3 := kT3.cell 1 rfl; have d2S3 := kS3.cell 2 rfl; have d2T3 := kT3.cell 2 rfl; have d3S3 := kS3.cell 3 rfl; have d3T3 := kT3.cell 3 rfl; have d4S3 := kS3.cell 4 rfl; have d4T3 := kT3.cell 4 rfl; have d5S3 := kS3.cell 5 rfl; have d5T3 := kT3.cell 5 rfl
  clear x1 x2 y3 h1 t2 hlt1 hle2 hlt2 ho3 hp x03 X0 kS0 kT0 hTs0 hTt0
  go_wp2_with (first
    | (go_at_call 28; have hc := put_any own4 ih ia im iv (by constructor <;> omega) w4 p pt (some pm) 20000 t (.slice At lt ct) s1 hTt4 h4 t4 (Or.inr ⟨_, rfl, m4⟩) hvl; rw [show valT t (.slice At lt ct) = .agg #[.int .i64 t.kind, .string t.name, .int .i64 t.int, .int .u64 t.re, .int .u64 t.im, .slice At lt ct] from rfl, hp2] at hc; refine Calls.mono hc ?_; rintro e5 w5 ⟨own5, x5, (rfl : e5 = .returned (.tuple #[.int .u64 c2, .int .i64 0])), h5, t5, mm5⟩; have m5 := mm5 _ rfl; clear mm5 hc; have kS5 := kS4.keep x5 (by simp; omega); have kT5 := kT4.keep x5 (by simp; omega); have hTs5 := TmS.keep x5 (by simp; omega) _ _ hTs4; have hTt5 := TmS.keep x5 (by simp; omega) _ _ hTt4; have X5 := X4.trans (x5.mono (by simp)); replace h5 : HP own5 ih w5 p 20000 s2.l := h5; replace t5 : TabP own5 ia im w5 pt s2.L := t5; replace m5 : VP own5 iv w5 pm s2.V := m5; have d0S5 := kS5.cell 0 rfl; have d0T5 := kT5.cell 0 rfl; have d1S5 := kS5.cell 1 rfl; have d1T5 := kT5.cell 1 rfl; have d2S5 := kS5.cell 2 rfl; have d2T5 := kT5.cell 2 rfl; have d3S5 := kS5.cell 3 rfl; have d3T5 := kT5.cell 3 rfl; have d4S5 := kS5.cell 4 rfl; have d4T5 := kT5.cell 4 rfl; have d5S5 := kS5.cell 5 rfl; have d5T5 := kT5.cell 5 rfl)
    | (go_at_call 28; have hc := put_any own3 ih ia im iv (by constructor <;> omega) w3 p pt (some pm) 20000 s (.slice As ls cs) ⟨[], names0, []⟩ hTs3 h3 t3 (Or.inr ⟨_, rfl, m3⟩) (by decide); rw [show valT s (.slice As ls cs) = .agg #[.int .i64 s.kind, .string s.name, .int .i64 s.int, .int .u64 s.re, .int .u64 s.im, .slice As ls cs] from rfl, hp1] at hc; refine Calls.mono hc ?_; rintro e4 w4 ⟨own4, x4, (rfl : e4 = .returned (.tuple #[.int .u64 c1, .int .i64 0])), h4, t4, mm4⟩; have m4 := mm4 _ rfl; clear mm4 hc; have kS4 := kS3.keep x4 (by simp; omega); have kT4 := kT3.keep x4 (by simp; omega); have hTs4 := TmS.keep x4 (by simp; omega) _ _ hTs3; have hTt4 := TmS.keep x4 (by simp; omega) _ _ hTt3; have X4 := X3.trans (x4.mono (by simp)); replace h4 : HP own4 ih w4 p 20000 s1.l := h4; replace t4 : TabP own4 ia im w4 pt s1.L := t4; replace m4 : VP own4 iv w4 pm s1.V := m4; have d0S4 := kS4.cell 0 rfl; have d0T4 := kT4.cell 0 rfl; have d1S4 := kS4.cell 1 rfl; have d1T4 := kT4.cell 1 rfl; have d2S4 := kS4.cell 2 rfl; have d2T4 := kT4.cell 2 rfl; have d3S4 := kS4.cell 3 rfl; have d3T4 := kT4.cell 3 rfl; have d4S4 := kS4.cell 4 rfl; have d4T4 := kT4.cell 4 rfl; have d5S4 := kS4.cell 5 rfl; have d5T4 := kT4.cell 5 rfl))
  refine (tnew_any own5 it _).mono ?_
  rintro e6 w6 ⟨own6, x6, rfl, hlt6, k6⟩
  go_wp2_with fail
  (try simp only [Exit.inBlock, Exit.then])
  refine bodyPost_ret (results_tmp5 rfl _ _ _) rfl ?_
  refine ⟨own6, X5.trans (x6.mono (by simp)), p, pt, _, rfl, h5.keep x6 (by simp), t5.keep x6 (by simp) (by simp), k6⟩

end Go.Proofs.Ytlmcfclonncgbaa
/- Layer 8's laws share this: two terms that every program must know to be made one (awake). -/
namespace Go.Proofs.Ytlmcfclonncgbaa
open Go.RowKit
set_option linter.unusedVariables false
set_option linter.unusedSimpArgs false

theorem awk8_put1 : putR 50 (.mk 5 ⟨#[102]⟩ 0 0 0 [.mk 1 ByteArray.empty 0 0 0 [], .mk 2 ⟨#[98]⟩ 0 0 0 []]) ⟨[], names0, []⟩ = (⟨[funC 2 2, 8, 26], names0 ++ [⟨#[102]⟩, ⟨#[98]⟩], [(0, 8)]⟩, 1, 0) := by
  rw [putR_eq]
  kernel_rfl
theorem awk8_put2 : putR 50 (.mk 5 ⟨#[102]⟩ 0 0 0 [.mk 2 ⟨#[97]⟩ 0 0 0 [], .mk 1 ByteArray.empty 1 0 0 []]) ⟨[funC 2 2, 8, 26], names0 ++ [⟨#[102]⟩, ⟨#[98]⟩], [(0, 8)]⟩ = (⟨[funC 2 2, 8, 26, funC 2 2, 34, 40], names0 ++ [⟨#[102]⟩, ⟨#[98]⟩, ⟨#[97]⟩], [(0, 8), (1, 40)]⟩, 25, 0) := by
  rw [putR_eq]
  kernel_rfl
theorem awk8_uni : uni 100000 [funC 2 2, 8, 26, funC 2 2, 34, 40] [] [(1, 25)] = (true, 0, [funC 2 2, 34, 26, funC 2 2, 34, 26], [(1, 8), (5, 40)], 99995) := by kernel_rfl
theorem awk8_get : getF [funC 2 2, 34, 26, funC 2 2, 34, 26] (names0 ++ [⟨#[102]⟩, ⟨#[98]⟩, ⟨#[97]⟩]) 500 1 0 [] = (0, (.comp ⟨#[102]⟩ [.atom ⟨#[97]⟩, .atom ⟨#[98]⟩]), 3, []) := by kernel_rfl
theorem awk8_same : sameB (un (.comp ⟨#[102]⟩ [.atom ⟨#[97]⟩, .atom ⟨#[98]⟩])) (.mk 5 ⟨#[102]⟩ 0 0 0 [.mk 2 ⟨#[97]⟩ 0 0 0 [], .mk 2 ⟨#[98]⟩ 0 0 0 []]) = true := by kernel_rfl
theorem awk8_u64 : ∀ x ∈ [funC 2 2, 8, 26, funC 2 2, 34, 40], 0 ≤ x ∧ x < 18446744073709551616 := by decide
theorem awk8_u64b : ∀ x ∈ [funC 2 2, 34, 26, funC 2 2, 34, 26], 0 ≤ x ∧ x < 18446744073709551616 := by decide
set_option maxRecDepth 100000 in
set_option maxHeartbeats 4000000 in
theorem awake8_any (w : World) : Calls Try.prog 63 #[] w fun e w' => e = .returned (.bool true) ∧ Below w.heap.size w w' := by
  have hmm := @run_makeMap Try.prog
  have X0 := Ext.refl own0 [1, 2, 3, 4, 5, 6] w
  go_enter Try.func63, Try.ntmps63
  go_wp2_with fail
  refine (new_any own0 1 50 _).mono ?_
  rintro e1 w1 ⟨own1, x1, rfl, hlt1, h1⟩
  obtain ⟨p, hp⟩ : ∃ p, w.heap.size = p := ⟨_, rfl⟩
  rw [hp] at h1 hlt1 ⊢
  go_wp2_with fail
  refine (anew_any own1 2 3 _ (by decide)).mono ?_
  rintro e2 w2 ⟨own2, pt, x2, rfl, hle2, hlt2, t2⟩
  go_wp2_with fail
  refine (tnew_any own2 5 _).mono ?_
  rintro e3 w3 ⟨own3, x3, rfl, hlt3, k3⟩
  obtain ⟨ptr, hptr⟩ : ∃ p, w2.heap.size = p := ⟨_, rfl⟩
  rw [hptr] at k3 ⊢
  obtain ⟨y4, m4⟩ := MV.new own3 4 w3 Try.prog .i64 .u64 2 34
  obtain ⟨w4, hw4⟩ : ∃ W, w3.alloc (.map #[] 0) = W := ⟨_, rfl⟩
  obtain ⟨own4, ho4⟩ : ∃ o, give own3 w3.heap.size 4 = o := ⟨_, rfl⟩
  obtain ⟨pm, hpm⟩ : ∃ p, w3.heap.size = p := ⟨_, rfl⟩
  rw [hw4, ho4] at y4 m4
  rw [hpm] at m4
  have X4 := ((X0.trans (x1.mono (by decide))).trans (x2.mono (by decide))).trans ((x3.mono (jds := [1, 2, 3, 4, 5, 6]) (by decide)).trans (y4.mono (by decide)))
  have h4 : HP own4 1 w4 p 50 [] := ((h1.keep x2 (by decide)).keep x3 (by decide)).keep y4 (by decide)
  have t4 := (t2.keep x3 (by decide) (by decide)).keep y4 (by decide) (by decide)
  have k4 := k3.keep y4 (by decide)
  clear x1 x2 x3 y4 h1 t2 k3 hlt1 hle2 hlt2 hlt3 ho4 hptr X0 hp
  go_wp2_with (first
    | (go_at_call 42; have hc := sget_new own15 1 2 3 6 (by constructor <;> decide) w15 p pt 50 1 [funC 2 2, 34, 26, funC 2 2, 34, 26] (names0 ++ [⟨#[102]⟩, ⟨#[98]⟩, ⟨#[97]⟩]) h15 t15 (by decide) (by decide) awk8_u64b (by decide) (by decide); rw [awk8_get] at hc; refine Calls.mono hc ?_; rintro e16 w16 ⟨own16, x16, hE⟩; unfold GotEnd at hE; rw [if_pos rfl] at hE; obtain ⟨AU, lU, cU, hee, hT16⟩ := hE; obtain rfl : e16 = .returned (.tuple #[.agg #[.int .i64 5, .string ⟨#[102]⟩, .int .i64 0, .int .u64 0, .int .u64 0, .slice AU lU cU], .int .i64 0]) := hee; have X16 := X15.trans (x16.mono (by decide)))
    | (go_at_call 65; have hun := uunify_any own14 1 5 (by decide) w14 p ptr 50 1 25 [funC 2 2, 8, 26, funC 2 2, 34, 40] [] h14 k14 (by decide) (by decide) awk8_u64 (by decide); rw [awk8_uni] at hun; simp only [if_true] at hun; refine Calls.mono hun ?_; rintro e15 w15 ⟨own15, x15, (rfl : e15 = .returned (.tuple #[.bool true, .int .i64 0])), h15, k15⟩; have X15 := X14.trans (x15.mono (by decide)); have t15 := t14.keep x15 (by decide) (by decide))
    | (go_at_call 28; have hput := put_any own13 1 2 3 4 (by constructor <;> decide) w13 p pt (some pm) 50 (.mk 5 ⟨#[102]⟩ 0 0 0 [.mk 2 ⟨#[97]⟩ 0 0 0 [], .mk 1 ByteArray.empty 1 0 0 []]) (.slice (some ⟨w11.heap.size, 0, none⟩) 2 2) ⟨[funC 2 2, 8, 26], names0 ++ [⟨#[102]⟩, ⟨#[98]⟩], [(0, 8)]⟩ (TmL.comp l13 (by unfold Rng; decide)) h13 t13 (Or.inr ⟨_, rfl, m13⟩) (by decide); rw [awk8_put2] at hput; refine Calls.mono hput ?_; rintro e14 w14 ⟨own14, x14, (rfl : e14 = .returned (.tuple #[.int .u64 25, .int .i64 0])), h14, t14, mm14⟩; have m14 := mm14 _ rfl; have X14 := X13.trans (x14.mono (by decide)); have k14 := k13.keep x14 (by decide); have hput : True := trivial; clear mm14; replace h14 : HP own14 1 w14 p 50 (⟨[funC 2 2, 8, 26, funC 2 2, 34, 40], names0 ++ [⟨#[102]⟩, ⟨#[98]⟩, ⟨#[97]⟩], [(0, 8), (1, 40)]⟩ : SS).l := h14; replace t14 : TabP own14 2 3 w14 pt (⟨[funC 2 2, 8, 26, funC 2 2, 34, 40], names0 ++ [⟨#[102]⟩, ⟨#[98]⟩, ⟨#[97]⟩], [(0, 8), (1, 40)]⟩ : SS).L := t14; replace m14 : VP own14 4 w14 pm (⟨[funC 2 2, 8, 26, funC 2 2, 34, 40], names0 ++ [⟨#[102]⟩, ⟨#[98]⟩, ⟨#[97]⟩], [(0, 8), (1, 40)]⟩ : SS).V := m14)
    | (go_at_call 57; refine (r1comp_any own12 ⟨#[102]⟩ [.mk 2 ⟨#[97]⟩ 0 0 0 [], .mk 1 ByteArray.empty 1 0 0 []] (some ⟨w11.heap.size, 0, none⟩) 2 2 _).mono ?_; rintro e13 w13 ⟨own13, x13, (rfl : e13 = .returned (.agg #[.int .i64 5, .string ⟨#[102]⟩, .int .i64 0, .int .u64 0, .int .u64 0, .slice (some ⟨w11.heap.size, 0, none⟩) 2 2]))⟩; have X13 := X12.trans (x13.mono (by decide)); have h13 := h12.keep x13 (by decide); have t13 := t12.keep x13 (by decide) (by decide); have m13 := m12.keep x13 (by decide); have k13 := k12.keep x13 (by decide); have l13 := l12.keep x13 (by decide))
    | (go_at_call 35; have hq := X10; refine (r1var_any own10 1 _).mono ?_; rintro e11 w11 ⟨own11, x11, (rfl : e11 = .returned (.agg #[.int .i64 1, .string ByteArray.empty, .int .i64 1, .int .u64 0, .int .u64 0, .slice none 0 0]))⟩; have X11 := X10.trans (x11.mono (by decide)); have h11 := h10.keep x11 (by decide); have t11 := t10.keep x11 (by decide) (by decide); have m11 := m10.keep x11 (by decide); have k11 := k10.keep x11 (by decide); obtain ⟨x12, l12⟩ := TmL.built own11 w11 [(.mk 2 ⟨#[97]⟩ 0 0 0 [], .slice none 0 0), (.mk 1 ByteArray.empty 1 0 0 [], .slice none 0 0)] (by intro z hz; simp at hz; rcases hz with rfl | rfl <;> exact leaf_term (by unfold Rng; decide)) (by decide) 25 [.int .i64 2, .string ⟨#[97]⟩, .int .i64 0, .int .u64 0, .int .u64 0, .slice none 0 0, .int .i64 1, .string ByteArray.empty, .int .i64 1, .int .u64 0, .int .u64 0, .slice none 0 0] rfl; obtain ⟨w12, hw12⟩ : ∃ W, w11.alloc (.cells #[.int .i64 2, .string ⟨#[97]⟩, .int .i64 0, .int .u64 0, .int .u64 0, .slice none 0 0, .int .i64 1, .string ByteArray.empty, .int .i64 1, .int .u64 0, .int .u64 0, .slice none 0 0] 25) = W := ⟨_, rfl⟩; obtain ⟨own12, ho12⟩ : ∃ o, give own11 w11.heap.size 0 = o := ⟨_, rfl⟩; change Ext own11 (give own11 w11.heap.size 0) [] w11 (w11.alloc (.cells #[.int .i64 2, .string ⟨#[97]⟩, .int .i64 0, .int .u64 0, .int .u64 0, .slice none 0 0, .int .i64 1, .string ByteArray.empty, .int .i64 1, .int .u64 0, .int .u64 0, .slice none 0 0] 25)) at x12; change TmL (give own11 w11.heap.size 0) (w11.alloc (.cells #[.int .i64 2, .string ⟨#[97]⟩, .int .i64 0, .int .u64 0, .int .u64 0, .slice none 0 0, .int .i64 1, .string ByteArray.empty, .int .i64 1, .int .u64 0, .int .u64 0, .slice none 0 0] 25)) [.mk 2 ⟨#[97]⟩ 0 0 0 [], .mk 1 ByteArray.empty 1 0 0 []] (some ⟨w11.heap.size, 0, none⟩) 2 2 at l12; rw [hw12, ho12] at x12 l12; clear ho12; have X12 := X11.trans (x12.mono (by decide)); have h12 := h11.keep x12 (by decide); have t12 := t11.keep x12 (by decide) (by decide); have m12 := m11.keep x12 (by decide); have k12 := k11.keep x12 (by decide))
    | (go_at_call 76; have hq := X9; refine (r1atom_any own9 ⟨#[97]⟩ _).mono ?_; rintro e10 w10 ⟨own10, x10, (rfl : e10 = .returned (.agg #[.int .i64 2, .string ⟨#[97]⟩, .int .i64 0, .int .u64 0, .int .u64 0, .slice none 0 0]))⟩; have X10 := X9.trans (x10.mono (by decide)); have h10 := h9.keep x10 (by decide); have t10 := t9.keep x10 (by decide) (by decide); have m10 := m9.keep x10 (by decide); have k10 := k9.keep x10 (by decide))
    | (go_at_call 28; have hput := put_any own8 1 2 3 4 (by constructor <;> decide) w8 p pt (some pm) 50 (.mk 5 ⟨#[102]⟩ 0 0 0 [.mk 1 ByteArray.empty 0 0 0 [], .mk 2 ⟨#[98]⟩ 0 0 0 []]) (.slice (some ⟨w6.heap.size, 0, none⟩) 2 2) ⟨[], names0, []⟩ (TmL.comp l8 (by unfold Rng; decide)) h8 t8 (Or.inr ⟨_, rfl, m8⟩) (by decide); rw [awk8_put1] at hput; refine Calls.mono hput ?_; rintro e9 w9 ⟨own9, x9, (rfl : e9 = .returned (.tuple #[.int .u64 1, .int .i64 0])), h9, t9, mm9⟩; have m9 := mm9 _ rfl; have X9 := X8.trans (x9.mono (by decide)); have k9 := k8.keep x9 (by decide); have hput : True := trivial; clear mm9; replace h9 : HP own9 1 w9 p 50 (⟨[funC 2 2, 8, 26], names0 ++ [⟨#[102]⟩, ⟨#[98]⟩], [(0, 8)]⟩ : SS).l := h9; replace t9 : TabP own9 2 3 w9 pt (⟨[funC 2 2, 8, 26], names0 ++ [⟨#[102]⟩, ⟨#[98]⟩], [(0, 8)]⟩ : SS).L := t9; replace m9 : VP own9 4 w9 pm (⟨[funC 2 2, 8, 26], names0 ++ [⟨#[102]⟩, ⟨#[98]⟩], [(0, 8)]⟩ : SS).V := m9)
    | (go_at_call 57; refine (r1comp_any own7 ⟨#[102]⟩ [.mk 1 ByteArray.empty 0 0 0 [], .mk 2 ⟨#[98]⟩ 0 0 0 []] (some ⟨w6.heap.size, 0, none⟩) 2 2 _).mono ?_; rintro e8 w8 ⟨own8, x8, (rfl : e8 = .returned (.agg #[.int .i64 5, .string ⟨#[102]⟩, .int .i64 0, .int .u64 0, .int .u64 0, .slice (some ⟨w6.heap.size, 0, none⟩) 2 2]))⟩; have X8 := X7.trans (x8.mono (by decide)); have h8 := h7.keep x8 (by decide); have t8 := t7.keep x8 (by decide) (by decide); have m8 := m7.keep x8 (by decide); have k8 := k7.keep x8 (by decide); have l8 := l7.keep x8 (by decide))
    | (go_at_call 76; refine (r1atom_any own5 ⟨#[98]⟩ _).mono ?_; rintro e6 w6 ⟨own6, x6, (rfl : e6 = .returned (.agg #[.int .i64 2, .string ⟨#[98]⟩, .int .i64 0, .int .u64 0, .int .u64 0, .slice none 0 0]))⟩; have X6 := X5.trans (x6.mono (by decide)); have h6 := h5.keep x6 (by decide); have t6 := t5.keep x6 (by decide) (by decide); have m6 := m5.keep x6 (by decide); have k6 := k5.keep x6 (by decide); obtain ⟨x7, l7⟩ := TmL.built own6 w6 [(.mk 1 ByteArray.empty 0 0 0 [], .slice none 0 0), (.mk 2 ⟨#[98]⟩ 0 0 0 [], .slice none 0 0)] (by intro z hz; simp at hz; rcases hz with rfl | rfl <;> exact leaf_term (by unfold Rng; decide)) (by decide) 25 [.int .i64 1, .string ByteArray.empty, .int .i64 0, .int .u64 0, .int .u64 0, .slice none 0 0, .int .i64 2, .string ⟨#[98]⟩, .int .i64 0, .int .u64 0, .int .u64 0, .slice none 0 0] rfl; obtain ⟨w7, hw7⟩ : ∃ W, w6.alloc (.cells #[.int .i64 1, .string ByteArray.empty, .int .i64 0, .int .u64 0, .int .u64 0, .slice none 0 0, .int .i64 2, .string ⟨#[98]⟩, .int .i64 0, .int .u64 0, .int .u64 0, .slice none 0 0] 25) = W := ⟨_, rfl⟩; obtain ⟨own7, ho7⟩ : ∃ o, give own6 w6.heap.size 0 = o := ⟨_, rfl⟩; change Ext own6 (give own6 w6.heap.size 0) [] w6 (w6.alloc (.cells #[.int .i64 1, .string ByteArray.empty, .int .i64 0, .int .u64 0, .int .u64 0, .slice none 0 0, .int .i64 2, .string ⟨#[98]⟩, .int .i64 0, .int .u64 0, .int .u64 0, .slice none 0 0] 25)) at x7; change TmL (give own6 w6.heap.size 0) (w6.alloc (.cells #[.int .i64 1, .string ByteArray.empty, .int .i64 0, .int .u64 0, .int .u64 0, .slice none 0 0, .int .i64 2, .string ⟨#[98]⟩, .int .i64 0, .int .u64 0, .int .u64 0, .slice none 0 0] 25)) [.mk 1 ByteArray.empty 0 0 0 [], .mk 2 ⟨#[98]⟩ 0 0 0 []] (some ⟨w6.heap.size, 0, none⟩) 2 2 at l7; rw [hw7, ho7] at x7 l7; clear ho7; have X7 := X6.trans (x7.mono (by decide)); have h7 := h6.keep x7 (by decide); have t7 := t6.keep x7 (by decide) (by decide); have m7 := m6.keep x7 (by decide); have k7 := k6.keep x7 (by decide))
    | (go_at_call 35; refine (r1var_any own4 0 _).mono ?_; rintro e5 w5 ⟨own5, x5, (rfl : e5 = .returned (.agg #[.int .i64 1, .string ByteArray.empty, .int .i64 0, .int .u64 0, .int .u64 0, .slice none 0 0]))⟩; have X5 := X4.trans (x5.mono (by decide)); have h5 := h4.keep x5 (by decide); have t5 := t4.keep x5 (by decide) (by decide); have m5 := m4.keep x5 (by decide); have k5 := k4.keep x5 (by decide)))
  obtain ⟨w17, hW17⟩ : ∃ W, w16.alloc (.cells #[.int .i64 5, .string ⟨#[102]⟩, .int .i64 0, .int .u64 0, .int .u64 0, .slice AU lU cU] 25) = W := ⟨_, rfl⟩
  obtain ⟨own17, y17, kU17, x17⟩ := boxU (Ext.refl own16 [] w16) [.int .i64 5, .string ⟨#[102]⟩, .int .i64 0, .int .u64 0, .int .u64 0, .slice AU lU cU] 25 0 w17 hW17
  have hT17 := TmS.keep x17 (by decide) _ _ hT16
  have X17 := X16.trans (x17.mono (by decide))
  rw [hW17]
  have HS : w17.drew.cell? ⟨w16.heap.size, 0, none⟩ = some (.int .i64 5) ∧ w17.drew.cell? ⟨w16.heap.size, 1, none⟩ = some (.string ⟨#[102]⟩) ∧ w17.drew.cell? ⟨w16.heap.size, 2, none⟩ = some (.int .i64 0) ∧ w17.drew.cell? ⟨w16.heap.size, 3, none⟩ = some (.int .u64 0) ∧ w17.drew.cell? ⟨w16.heap.size, 4, none⟩ = some (.int .u64 0) ∧ w17.drew.cell? ⟨w16.heap.size, 5, none⟩ = some (.slice AU lU cU) := ⟨(Blk.drew kU17).cell 0 rfl, (Blk.drew kU17).cell 1 rfl, (Blk.drew kU17).cell 2 rfl, (Blk.drew kU17).cell 3 rfl, (Blk.drew kU17).cell 4 rfl, (Blk.drew kU17).cell 5 rfl⟩
  clear hW17
  refine wp_calmN ?_
  refine wp_region_till 11 (fun W => W.cell? ⟨w16.heap.size, 0, none⟩ = some (.int .i64 5) ∧ W.cell? ⟨w16.heap.size, 1, none⟩ = some (.string ⟨#[102]⟩) ∧ W.cell? ⟨w16.heap.size, 2, none⟩ = some (.int .i64 0) ∧ W.cell? ⟨w16.heap.size, 3, none⟩ = some (.int .u64 0) ∧ W.cell? ⟨w16.heap.size, 4, none⟩ = some (.int .u64 0) ∧ W.cell? ⟨w16.heap.size, 5, none⟩ = some (.slice AU lU cU)) (by kernel_rfl) ?_
  refine wpTill_free 0 (v := ?_) rfl (by kernel_rfl) (by kernel_rfl) (by kernel_rfl) (by kernel_rfl) (fun _ _ _ h => h) rfl (fun _ => HS) ?_ ?_
  rotate_left 1
  · intro w; go_simp; try with_reducible rfl
  try simp only [Act.put, List.setIfInBounds_toArray, List.set_cons_zero, List.set_cons_succ, List.getElem_toArray, List.getElem_cons_succ, List.getElem_cons_zero]
  refine wpTill_free 1 (v := ?_) rfl (by kernel_rfl) (by kernel_rfl) (by kernel_rfl) (by kernel_rfl) (fun _ _ _ h => h) rfl (fun _ => HS) ?_ ?_
  rotate_left 1
  · intro w; go_simp; try with_reducible rfl
  try simp only [Act.put, List.setIfInBounds_toArray, List.set_cons_zero, List.set_cons_succ, List.getElem_toArray, List.getElem_cons_succ, List.getElem_cons_zero]
  refine wpTill_free 2 (v := ?_) rfl (by kernel_rfl) (by kernel_rfl) (by kernel_rfl) (by kernel_rfl) (fun _ _ _ h => h) rfl (fun _ => HS) ?_ ?_
  rotate_left 1
  · intro w; go_simp; try with_reducible rfl
  try simp only [Act.put, List.setIfInBounds_toArray, List.set_cons_zero, List.set_cons_succ, List.getElem_toArray, List.getElem_cons_succ, List.getElem_cons_zero]
  refine wpTill_free 3 (v := ?_) rfl (by kernel_rfl) (by kernel_rfl) (by kernel_rfl) (by kernel_rfl) (fun _ _ _ h => h) rfl (fun _ => HS) ?_ ?_
  rotate_left 1
  · intro w; go_simp; try with_reducible rfl
  try simp only [Act.put, List.setIfInBounds_toArray, List.set_cons_zero, List.set_cons_succ, List.getElem_toArray, List.getElem_cons_succ, List.getElem_cons_zero]
  refine wpTill_free 4 (v := ?_) rfl (by kernel_rfl) (by kernel_rfl) (by kernel_rfl) (by kernel_rfl) (fun _ _ _ h => h) rfl (fun _ => HS) ?_ ?_
  rotate_left 1
  · intro w; go_simp; try with_reducible rfl
  try simp only [Act.put, List.setIfInBounds_toArray, List.set_cons_zero, List.set_cons_succ, List.getElem_toArray, List.getElem_cons_succ, List.getElem_cons_zero]
  refine wpTill_free 5 (v := ?_) rfl (by kernel_rfl) (by kernel_rfl) (by kernel_rfl) (by kernel_rfl) (fun _ _ _ h => h) rfl (fun _ => HS) ?_ ?_
  rotate_left 1
  · intro w; go_simp; try with_reducible rfl
  try simp only [Act.put, List.setIfInBounds_toArray, List.set_cons_zero, List.set_cons_succ, List.getElem_toArray, List.getElem_cons_succ, List.getElem_cons_zero]
  refine wpTill_take 6 (v := ?_) rfl (by kernel_rfl) (by kernel_rfl) (by kernel_rfl) (by kernel_rfl) (by kernel_rfl) (fun _ _ _ h => h) rfl HS ?_ ?_
  rotate_left 1
  · intro w hSw; go_split_ands; go_simp; try with_reducible rfl
  try simp only [Act.put, List.setIfInBounds_toArray, List.set_cons_zero, List.set_cons_succ, List.getElem_toArray, List.getElem_cons_succ, List.getElem_cons_zero]
  refine wpTill_one 7 rfl (by kernel_rfl) rfl (fun K hK => ?_)
  go_simp
  refine (r1atom_any own17 ⟨#[97]⟩ _).mono ?_
  rintro e18 w18 ⟨own18, x18, (rfl : e18 = .returned (.agg #[.int .i64 2, .string ⟨#[97]⟩, .int .i64 0, .int .u64 0, .int .u64 0, .slice none 0 0]))⟩
  replace x18 := x18.ofDraw
  have kU18 := kU17.keep x18 (by decide)
  have hT18 := TmS.keep x18 (by decide) _ _ hT17
  have X18 := X17.trans (x18.mono (by decide))
  refine hK.out _ _ (fun _ => ⟨kU18.cell 0 rfl, kU18.cell 1 rfl, kU18.cell 2 rfl, kU18.cell 3 rfl, kU18.cell 4 rfl, kU18.cell 5 rfl⟩) ?_
  clear hK K
  try simp only [Act.put, List.setIfInBounds_toArray, List.set_cons_zero, List.set_cons_succ, List.getElem_toArray, List.getElem_cons_succ, List.getElem_cons_zero]
  refine wpTill_one 8 rfl (by kernel_rfl) rfl (fun K hK => ?_)
  go_simp
  refine (r1atom_any own18 ⟨#[98]⟩ _).mono ?_
  rintro e19 w19 ⟨own19, x19, (rfl : e19 = .returned (.agg #[.int .i64 2, .string ⟨#[98]⟩, .int .i64 0, .int .u64 0, .int .u64 0, .slice none 0 0]))⟩
  have kU19 := kU18.keep x19 (by decide)
  have hT19 := TmS.keep x19 (by decide) _ _ hT18
  have X19 := X18.trans (x19.mono (by decide))
  obtain ⟨x20, l20⟩ := TmL.built own19 w19 [(.mk 2 ⟨#[97]⟩ 0 0 0 [], .slice none 0 0), (.mk 2 ⟨#[98]⟩ 0 0 0 [], .slice none 0 0)] (by intro z hz; simp at hz; rcases hz with rfl | rfl <;> exact leaf_term (by unfold Rng; decide)) (by decide) 25 [.int .i64 2, .string ⟨#[97]⟩, .int .i64 0, .int .u64 0, .int .u64 0, .slice none 0 0, .int .i64 2, .string ⟨#[98]⟩, .int .i64 0, .int .u64 0, .int .u64 0, .slice none 0 0] rfl
  have kU20 := kU19.keep x20 (by decide)
  have hT20 := TmS.keep x20 (by decide) _ _ hT19
  have X20 := X19.trans (x20.mono (by decide))
  refine hK.out _ _ (fun _ => ⟨kU19.cell 0 rfl, kU19.cell 1 rfl, kU19.cell 2 rfl, kU19.cell 3 rfl, kU19.cell 4 rfl, kU19.cell 5 rfl⟩) ?_
  clear hK K
  try simp only [Act.put, List.setIfInBounds_toArray, List.set_cons_zero, List.set_cons_succ, List.getElem_toArray, List.getElem_cons_succ, List.getElem_cons_zero]
  refine wpTill_one 9 rfl (by kernel_rfl) rfl (fun K hK => ?_)
  go_simp
  refine hK.out _ _ (fun _ => ⟨kU20.cell 0 rfl, kU20.cell 1 rfl, kU20.cell 2 rfl, kU20.cell 3 rfl, kU20.cell 4 rfl, kU20.cell 5 rfl⟩) ?_
  clear hK K
  try simp only [Act.put, List.setIfInBounds_toArray, List.set_cons_zero, List.set_cons_succ, List.getElem_toArray, List.getElem_cons_succ, List.getElem_cons_zero]
  refine wpTill_one 10 rfl (by kernel_rfl) rfl (fun K hK => ?_)
  go_simp
  refine (r1comp_any (give own19 w19.heap.size 0) ⟨#[102]⟩ [.mk 2 ⟨#[97]⟩ 0 0 0 [], .mk 2 ⟨#[98]⟩ 0 0 0 []] (some ⟨w19.heap.size, 0, none⟩) 2 2 _).mono ?_
  rintro e21 w21 ⟨own21, x21, (rfl : e21 = .returned (.agg #[.int .i64 5, .string ⟨#[102]⟩, .int .i64 0, .int .u64 0, .int .u64 0, .slice (some ⟨w19.heap.size, 0, none⟩) 2 2]))⟩
  have kU21 := kU20.keep x21 (by decide)
  have hT21 := TmS.keep x21 (by decide) _ _ hT20
  have l21 := l20.keep x21 (by decide)
  have X21 := X20.trans (x21.mono (by decide))
  refine hK.out _ _ (fun _ => ⟨kU21.cell 0 rfl, kU21.cell 1 rfl, kU21.cell 2 rfl, kU21.cell 3 rfl, kU21.cell 4 rfl, kU21.cell 5 rfl⟩) ?_
  clear hK K
  try simp only [Act.put, List.setIfInBounds_toArray, List.set_cons_zero, List.set_cons_succ, List.getElem_toArray, List.getElem_cons_succ, List.getElem_cons_zero]
  refine wpTill_one 11 rfl (by kernel_rfl) rfl (fun K hK => ?_)
  go_simp
  have hc := same_any (un (.comp ⟨#[102]⟩ [.atom ⟨#[97]⟩, .atom ⟨#[98]⟩])) (.slice AU lU cU) (.mk 5 ⟨#[102]⟩ 0 0 0 [.mk 2 ⟨#[97]⟩ 0 0 0 [], .mk 2 ⟨#[98]⟩ 0 0 0 []]) (.slice (some ⟨w19.heap.size, 0, none⟩) 2 2) own21 _ hT21 (TmL.comp l21 (by unfold Rng; decide))
  rw [awk8_same] at hc
  refine Calls.mono hc ?_
  rintro e22 w22 ⟨own22, x22, rfl⟩
  have X22 := X21.trans (x22.mono (by decide))
  refine hK.out _ _ (Till.gone (by kernel_rfl)) ?_
  clear hK K
  try simp only [Act.put, List.setIfInBounds_toArray, List.set_cons_zero, List.set_cons_succ, List.getElem_toArray, List.getElem_cons_succ, List.getElem_cons_zero]
  refine wpTill_free 12 (v := ?_) rfl (by kernel_rfl) (by kernel_rfl) (by kernel_rfl) (by kernel_rfl) (fun _ _ _ h => h) rfl (Till.gone (by kernel_rfl)) ?_ ?_
  rotate_left 1
  · intro w; go_simp; try with_reducible rfl
  try simp only [Act.put, List.setIfInBounds_toArray, List.set_cons_zero, List.set_cons_succ, List.getElem_toArray, List.getElem_cons_succ, List.getElem_cons_zero]
  refine wpTill_free 13 (v := ?_) rfl (by kernel_rfl) (by kernel_rfl) (by kernel_rfl) (by kernel_rfl) (fun _ _ _ h => h) rfl (Till.gone (by kernel_rfl)) ?_ ?_
  rotate_left 1
  · intro w; go_simp; try with_reducible rfl
  try simp only [Act.put, List.setIfInBounds_toArray, List.set_cons_zero, List.set_cons_succ, List.getElem_toArray, List.getElem_cons_succ, List.getElem_cons_zero]
  refine wpTill_done (by kernel_rfl) ?_ _
  go_wp2_with fail
  go_ret
  exact ⟨rfl, X22.below (fun _ _ => rfl) (by decide)⟩

end Go.Proofs.Ytlmcfclonncgbaa
