/- Texts that stand together: YCells, YRun. -/
import Derived.Test.YtlmcfclonncgbaaYCell
import Derived.ScopeJumps
/- A term's cell laid (package store): all kinds at once. -/
namespace Go.Proofs.Ytlmcfclonncgbaa
open Go.RowKit
set_option linter.unusedVariables false
set_option linter.unusedSimpArgs false

def cellR (most : Int) (t : Tm) (at_ : Int) (st : SS) : SS × Int × Int :=
  if t.kind = 5 then ((compT most t.name t.args.length st).1, compC (compT most t.name t.args.length st), (compT most t.name t.args.length st).2.2) else putT most (cl t) at_ st
/-- What a compound's stack gets. -/
def KidsK (own : Nat → Nat) (w : World) (most : Int) (t : Tm) (at_ : Int) (st : SS) (K : List TD) : Prop :=
  if t.kind = 5 then ((compT most t.name t.args.length st).2.2 = 0 → (K.map TD.spec).reverse = todos (cls t.args) ((compT most t.name t.args.length st).2.1 + 1) ++ [.laid at_ (compC (compT most t.name t.args.length st))] ∧ ∀ z ∈ K, TdOk own w z ∧ (z.laid = false → z.t ∈ t.args)) else K = []
theorem CellEnd.imp {own : Nat → Nat} {idh ida idm idy idv : Nat} {w : World} {y ph pa mb : Nat} {most : Int} {stk : List TD} {N : Nat} {st st' : SS} {P P' : List TD → Prop} (h : CellEnd own idh ida idm idy idv w y ph pa mb most stk N st P) (he : st = st') (hp : ∀ K, P K → P' K) : CellEnd own idh ida idm idy idv w y ph pa mb most stk N st' P' := by
  subst he
  obtain ⟨h1, h2, h3, v, K, h4, h5, h6, h7⟩ := h
  exact ⟨h1, h2, h3, v, K, h4, h5, h6, hp K h7⟩
theorem ycell_all (own : Nat → Nat) (idh ida idm idy idv : Nat) (hids : Ids idh ida idm idy idv) (w : World) (y ph pa mb : Nat) (most : Int) (stk : List TD) (N : Nat) (st : SS) (h : Lay own idh ida idm idy idv w y ph pa mb most stk N st)
    (td : TD) (hT : TmS own w td.t (.slice td.A td.l td.c)) (hk : Kinds td.t) (hf : fine (cl td.t)) (hat0 : -1 ≤ td.at_) (ha1 : td.at_ < 1048576) :
    Calls Try.prog 87 #[.pointer (some ⟨y, 0, none⟩), td.val] w (Does own [idh, ida, idm, idy, idv] w fun own' e w' => e = .returned (retC (cellR most td.t td.at_ st)) ∧ CellEnd own' idh ida idm idy idv w' y ph pa mb most stk N (cellR most td.t td.at_ st).1 (KidsK own' w' most td.t td.at_ st)) := by
  obtain ⟨t, A, len, cap, at_, laid, x⟩ := td
  obtain ⟨k, s, n, re, im, args⟩ := t
  dsimp only at hT hk hf hat0 ha1 ⊢
  have hr := hT.rng
  have hk15 : 1 ≤ k ∧ k ≤ 5 := by cases hk <;> omega
  rcases cl_cases k s n re im args hk15.1 hk15.2 with ⟨rfl, e⟩ | ⟨rfl, e⟩ | ⟨rfl, e⟩ | ⟨rfl, e⟩ | ⟨rfl, e⟩
  · have hc : cellR most (.mk 1 s n re im args) at_ st = varT most n at_ st := by unfold cellR; rw [if_neg (by simp [Tm.kind]), e]; rfl
    rw [hc]
    refine (ycell_var own idh ida idm idy idv hids w y ph pa mb most stk N st h s n re im args A len cap at_ laid x hr.2.1 ha1).mono ?_
    rintro e' w' ⟨own', x', h1, h2⟩
    exact ⟨own', x', h1, h2.imp rfl (fun K hK => by unfold KidsK; rw [if_neg (by simp [Tm.kind])]; exact hK)⟩
  · have hc : cellR most (.mk 2 s n re im args) at_ st = (⟨st.l, numL st.L s, st.V⟩, numN st.L s * 8 + 2, numE st.L s) := by unfold cellR; rw [if_neg (by simp [Tm.kind]), e]; rfl
    rw [hc]
    refine (ycell_atom own idh ida idm idy idv hids w y ph pa mb most stk N st h s n re im args A len cap at_ laid x).mono ?_
    rintro e' w' ⟨own', x', h1, h2⟩
    exact ⟨own', x', h1, h2.imp rfl (fun K hK => by unfold KidsK; rw [if_neg (by simp [Tm.kind])]; exact hK)⟩
  · by_cases hs : isSmall n
    · have hc : cellR most (.mk 3 s n re im args) at_ st = (st, smallC n, 0) := by unfold cellR; rw [if_neg (by simp [Tm.kind]), e]; simp only [putT]; rw [if_pos hs]
      rw [hc]
      refine (ycell_small own idh ida idm idy idv hids w y ph pa mb most stk N st h s n re im args A len cap at_ laid x hr.2.1 hs).mono ?_
      rintro e' w' ⟨own', x', h1, h2⟩
      exact ⟨own', x', h1, h2.imp rfl (fun K hK => by unfold KidsK; rw [if_neg (by simp [Tm.kind])]; exact hK)⟩
    · have hc : cellR most (.mk 3 s n re im args) at_ st = wordsT most 4 [u64 n] st := by unfold cellR; rw [if_neg (by simp [Tm.kind]), e]; simp only [putT]; rw [if_neg hs]
      rw [hc]
      refine (ycell_big own idh ida idm idy idv hids w y ph pa mb most stk N st h s n re im args A len cap at_ laid x hr.2.1 hs).mono ?_
      rintro e' w' ⟨own', x', h1, h2⟩
      exact ⟨own', x', h1, h2.imp rfl (fun K hK => by unfold KidsK; rw [if_neg (by simp [Tm.kind])]; exact hK)⟩
  · have hc : cellR most (.mk 4 s n re im args) at_ st = wordsT most 5 [re, im] st := by unfold cellR; rw [if_neg (by simp [Tm.kind]), e]; rfl
    rw [hc]
    refine (ycell_cpx own idh ida idm idy idv hids w y ph pa mb most stk N st h s n re im args A len cap at_ laid x hr.2.2.1 hr.2.2.2.1).mono ?_
    rintro e' w' ⟨own', x', h1, h2⟩
    exact ⟨own', x', h1, h2.imp rfl (fun K hK => by unfold KidsK; rw [if_neg (by simp [Tm.kind])]; exact hK)⟩
  · have hc : cellR most (.mk 5 s n re im args) at_ st = ((compT most s args.length st).1, compC (compT most s args.length st), (compT most s args.length st).2.2) := by unfold cellR; rw [if_pos (show (Tm.mk 5 s n re im args).kind = 5 from rfl)]; rfl
    rw [hc]
    rw [e] at hf
    obtain ⟨f1, f2, f3, f4⟩ := hf
    rw [cls_length] at f2 f3
    refine (ycell_comp own idh ida idm idy idv hids w y ph pa mb most stk N st h s n re im args A len cap at_ laid x hT f2 f3 hat0 ha1).mono ?_
    rintro e' w' ⟨own', x', h1, h2⟩
    exact ⟨own', x', h1, h2.imp rfl (fun K hK => by unfold KidsK; rw [if_pos (show (Tm.mk 5 s n re im args).kind = 5 from rfl)]; exact hK)⟩

end Go.Proofs.Ytlmcfclonncgbaa
/- A pass of Put's loop, in plain terms: what it does to what is still to be laid. -/
namespace Go.Proofs.Ytlmcfclonncgbaa
open Go.RowKit
set_option linter.unusedVariables false
set_option linter.unusedSimpArgs false

theorem least (p : Nat → Prop) (h : ∃ n, p n) : ∃ n, p n ∧ ∀ m, p m → n ≤ m := by
  obtain ⟨n, hn⟩ := h
  induction n using Nat.strongRecOn with
  | _ n ih =>
    by_cases hk : ∃ m, p m ∧ m < n
    · obtain ⟨m, hm, hl⟩ := hk
      exact ih m hl hm
    · exact ⟨n, hn, fun m hm => by
        by_cases h' : n ≤ m
        · exact h'
        · exact absurd ⟨m, hm, by omega⟩ hk⟩
/-- A loop by goto whose measure is a number beside. -/
theorem wp_scope_nat {P : Program} {Q : Exit → Act → World → Prop} {a : Act} {w : World} {c body : Code} (l : Nat) (J : Nat → Act → World → Prop) (hf : findLabel c l = some (Code.skip.seq body))
    (pass : ∀ n a w, J n a w → body.wp P (Exit.jump l (fun a' w' => ∃ m, m < n ∧ J m a' w') Q) a w)
    (first : (∀ n a w, J n a w → body.wp P (Exit.jump l (fun a' w' => ∃ m, J m a' w') Q) a w) → c.wp P (Exit.jump l (fun a' w' => ∃ m, J m a' w') Q) a w) : (Code.scope c).wp P Q a w := by
  classical
  let μ : Act → World → Nat := fun a w => if h : ∃ n, J n a w then Classical.choose (least (fun n => J n a w) h) else 0
  have hμ : ∀ n a w, J n a w → J (μ a w) a w ∧ μ a w ≤ n := by
    intro n a w h
    have hex : ∃ n, J n a w := ⟨n, h⟩
    have := Classical.choose_spec (least (fun n => J n a w) hex)
    show J (dite _ _ _) a w ∧ dite _ _ _ ≤ n
    rw [dif_pos hex]
    exact ⟨this.1, this.2 n h⟩
  refine wp_scope_jumps l (fun a w => ∃ n, J n a w) μ hf (first fun n a w h => wp_mono (pass n a w h) (fun e a' w' hq => by
    cases e <;> first | exact hq | exact ⟨hq.1, hq.2.elim fun m hm => ⟨m, hm.2⟩⟩)) (fun a w h => ?_)
  obtain ⟨n, hn⟩ := h
  obtain ⟨h1, h2⟩ := hμ n a w hn
  exact wp_seq (wp_skip (wp_mono (pass _ a w h1) (fun e a' w' hq => by
    cases e <;> first | exact hq | exact ⟨hq.1, hq.2.elim fun m hm => ⟨⟨m, hm.2⟩, Nat.lt_of_le_of_lt (hμ m a' w' hm.2).2 hm.1⟩⟩)))
theorem runS_nil (most : Int) (st : SS) (first : Int) : runS most [] st first = (st, first, 0) := by rw [runS.eq_def]
theorem runS_laid (most at_ c : Int) (rest : List Todo) (st : SS) (first : Int) : runS most (.laid at_ c :: rest) st first = runS most rest { st with l := setL' st.l at_ c } (setF first at_ c) := by rw [runS.eq_def]
theorem runS_cell (most : Int) (t : Tm) (hk : Kinds t) (at_ : Int) (rest : List Todo) (st : SS) (first : Int) :
    runS most (.todo (cl t) at_ :: rest) st first = if (cellR most t at_ st).2.2 ≠ 0 then ((cellR most t at_ st).1, 0, (cellR most t at_ st).2.2)
      else if t.kind = 5 then runS most (todos (cls t.args) ((compT most t.name t.args.length st).2.1 + 1) ++ .laid at_ (compC (compT most t.name t.args.length st)) :: rest) (cellR most t at_ st).1 first
      else runS most rest { (cellR most t at_ st).1 with l := setL' (cellR most t at_ st).1.l at_ (cellR most t at_ st).2.1 } (setF first at_ (cellR most t at_ st).2.1) := by
  obtain ⟨k, s, n, re, im, args⟩ := t
  have hk15 : 1 ≤ k ∧ k ≤ 5 := by cases hk <;> omega
  rw [runS.eq_def]
  rcases cl_cases k s n re im args hk15.1 hk15.2 with ⟨rfl, e⟩ | ⟨rfl, e⟩ | ⟨rfl, e⟩ | ⟨rfl, e⟩ | ⟨rfl, e⟩
  · have hc : cellR most (.mk 1 s n re im args) at_ st = putT most (.var n) at_ st := by unfold cellR; rw [if_neg (by simp [Tm.kind]), e]
    rw [hc, e]; simp [Tm.kind]
  · have hc : cellR most (.mk 2 s n re im args) at_ st = putT most (.atom s) at_ st := by unfold cellR; rw [if_neg (by simp [Tm.kind]), e]
    rw [hc, e]; simp [Tm.kind]
  · have hc : cellR most (.mk 3 s n re im args) at_ st = putT most (.int n) at_ st := by unfold cellR; rw [if_neg (by simp [Tm.kind]), e]
    rw [hc, e]; simp [Tm.kind]
  · have hc : cellR most (.mk 4 s n re im args) at_ st = putT most (.cpx re im) at_ st := by unfold cellR; rw [if_neg (by simp [Tm.kind]), e]
    rw [hc, e]; simp [Tm.kind]
  · have hc : cellR most (.mk 5 s n re im args) at_ st = ((compT most s args.length st).1, compC (compT most s args.length st), (compT most s args.length st).2.2) := by unfold cellR; rw [if_pos (show (Tm.mk 5 s n re im args).kind = 5 from rfl)]; rfl
    rw [hc, e]
    rw [if_pos (show (Tm.mk 5 s n re im args).kind = 5 from rfl)]
    dsimp only [Tm.kind, Tm.name, Tm.args]
    rw [cls_length]
    by_cases h : (compT most s args.length st).2.2 = 0
    · rw [if_neg (by simpa using h), if_neg (by simpa using h)]
      unfold compC
      rw [if_pos h]
    · rw [if_pos h, if_pos h]
theorem cell_w (t : Tm) (hk : Kinds t) (p at_ : Nat) (a c : Int) : t.kind = 5 → wts (todos (cls t.args) p ++ [.laid a c]) < 2 * nodes (cl t) := by
  obtain ⟨k, s, n, re, im, args⟩ := t
  rintro h
  obtain rfl : k = 5 := h
  have e : cl (.mk 5 s n re im args) = .comp s (cls args) := rfl
  rw [e, wts_append, wts_todos]
  simp only [wts, Todo.w, nodes, Tm.args]
  omega
theorem setL'_pos {l : List Int} {at_ c : Int} (h : 0 ≤ at_) : setL' l at_ c = setL l at_ c := by
  unfold setL' setL inB
  rw [if_neg (by omega)]
  by_cases h2 : at_ < l.length
  · simp [h, h2]
  · simp [h2]
    exact List.set_eq_of_length_le (by omega)
/-- What is still to be laid is no more than its weight. -/
theorem len_wts : ∀ l : List Todo, l.length ≤ wts l
  | [] => Nat.le_refl _
  | x :: xs => by
    have h1 := len_wts xs
    have h2 : 1 ≤ x.w := by
      cases x with
      | todo t _ => have := nodes_pos t; show 1 ≤ 2 * nodes t; omega
      | laid _ _ => exact Nat.le_refl _
    simp only [List.length_cons, wts]
    omega
theorem kinds_args {t : Tm} (h : Kinds t) : t.kind = 5 → ∀ a ∈ t.args, Kinds a := by
  cases h with
  | leaf h1 h4 => intro h5; have h5' : _ = (5 : Int) := h5; dsimp only [Tm.kind] at h5'; omega
  | comp h => exact fun _ => h
theorem fines_mem : ∀ (l : List Tm), fines (cls l) → ∀ a ∈ l, fine (cl a)
  | [], _, a, ha => by simp at ha
  | b :: l, h, a, ha => by
    rcases List.mem_cons.1 ha with rfl | ha
    · exact h.1
    · exact fines_mem l h.2 a ha
theorem fine_args {t : Tm} (h5 : t.kind = 5) (h : fine (cl t)) : ∀ a ∈ t.args, fine (cl a) := by
  obtain ⟨k, s, n, re, im, args⟩ := t
  obtain rfl : k = 5 := h5
  have e : cl (.mk 5 s n re im args) = .comp s (cls args) := rfl
  rw [e] at h
  exact fines_mem args h.2.2.2
theorem varT_V (most n own : Int) (st : SS) : (varT most n own st).1.V.length ≤ st.V.length + 1 := by
  unfold varT; split <;> (try split) <;> (try split) <;> simp
theorem cellR_V (most : Int) (t : Tm) (at_ : Int) (st : SS) (hk : Kinds t) : (cellR most t at_ st).1.V.length ≤ st.V.length + 1 := by
  unfold cellR
  split
  · rw [compT_V]; omega
  · rename_i h
    obtain ⟨k, s, n, re, im, args⟩ := t
    have hk15 : 1 ≤ k ∧ k ≤ 5 := by cases hk <;> omega
    rcases cl_cases k s n re im args hk15.1 hk15.2 with ⟨rfl, e⟩ | ⟨rfl, e⟩ | ⟨rfl, e⟩ | ⟨rfl, e⟩ | ⟨rfl, e⟩
    · rw [e]; exact varT_V most n at_ st
    · rw [e]; simp [putT]
    · rw [e]; simp only [putT]; split
      · simp
      · rw [wordsT_V]; omega
    · rw [e]; simp only [putT]; rw [wordsT_V]; omega
    · exact absurd rfl h
theorem step_laid {most : Int} {z : TD} {rest : List Todo} {st : SS} {first : Int} {R : SS × Int × Int} {n B : Nat} (hz : z.laid = true) (run : runS most (z.spec :: rest) st first = R) (hn : n = wts (z.spec :: rest)) (hb : st.V.length + n ≤ B) :
    runS most rest { st with l := setL' st.l z.at_ z.x } (setF first z.at_ z.x) = R ∧ wts rest < n ∧ st.V.length + wts rest ≤ B := by
  have e : z.spec = .laid z.at_ z.x := by unfold TD.spec; rw [if_pos hz]
  rw [e] at run hn
  rw [runS_laid] at run
  simp only [wts, Todo.w] at hn
  exact ⟨run, by omega, by omega⟩
theorem step_err {most : Int} {z : TD} {rest : List Todo} {st : SS} {first : Int} {R : SS × Int × Int} (hz : z.laid = false) (hk : Kinds z.t) (run : runS most (z.spec :: rest) st first = R) (he : (cellR most z.t z.at_ st).2.2 ≠ 0) :
    ((cellR most z.t z.at_ st).1, (0 : Int), (cellR most z.t z.at_ st).2.2) = R := by
  have e : z.spec = .todo (cl z.t) z.at_ := by unfold TD.spec; rw [hz]; rfl
  rw [e, runS_cell most z.t hk, if_pos he] at run
  exact run
theorem step_one {most : Int} {z : TD} {rest : List Todo} {st : SS} {first : Int} {R : SS × Int × Int} {n B : Nat} (hz : z.laid = false) (hk : Kinds z.t) (run : runS most (z.spec :: rest) st first = R) (hn : n = wts (z.spec :: rest)) (hb : st.V.length + n ≤ B)
    (he : (cellR most z.t z.at_ st).2.2 = 0) (h5 : z.t.kind ≠ 5) :
    runS most rest { (cellR most z.t z.at_ st).1 with l := setL' (cellR most z.t z.at_ st).1.l z.at_ (cellR most z.t z.at_ st).2.1 } (setF first z.at_ (cellR most z.t z.at_ st).2.1) = R ∧ wts rest < n ∧ (cellR most z.t z.at_ st).1.V.length + wts rest ≤ B := by
  have e : z.spec = .todo (cl z.t) z.at_ := by unfold TD.spec; rw [hz]; rfl
  rw [e] at run hn
  rw [runS_cell most z.t hk, if_neg (by simpa using he), if_neg h5] at run
  have h1 := cellR_V most z.t z.at_ st hk
  have h2 := nodes_pos (cl z.t)
  simp only [wts, Todo.w] at hn
  exact ⟨run, by omega, by omega⟩
theorem step_kids {own : Nat → Nat} {w : World} {K : List TD} {most : Int} {z : TD} {rest : List Todo} {st : SS} {first : Int} {R : SS × Int × Int} {n B : Nat} (hz : z.laid = false) (hk : Kinds z.t) (run : runS most (z.spec :: rest) st first = R) (hn : n = wts (z.spec :: rest)) (hb : st.V.length + n ≤ B)
    (he : (cellR most z.t z.at_ st).2.2 = 0) (h5 : z.t.kind = 5) (hK : KidsK own w most z.t z.at_ st K) :
    runS most ((K.map TD.spec).reverse ++ rest) (cellR most z.t z.at_ st).1 first = R ∧ wts ((K.map TD.spec).reverse ++ rest) < n ∧ (cellR most z.t z.at_ st).1.V.length + wts ((K.map TD.spec).reverse ++ rest) ≤ B ∧ ∀ u ∈ K, TdOk own w u ∧ (u.laid = false → u.t ∈ z.t.args) := by
  have e : z.spec = .todo (cl z.t) z.at_ := by unfold TD.spec; rw [hz]; rfl
  rw [e] at run hn
  rw [runS_cell most z.t hk, if_neg (by simpa using he), if_pos h5] at run
  have hc : cellR most z.t z.at_ st = ((compT most z.t.name z.t.args.length st).1, compC (compT most z.t.name z.t.args.length st), (compT most z.t.name z.t.args.length st).2.2) := by unfold cellR; rw [if_pos h5]
  have h1 : (cellR most z.t z.at_ st).1.V = st.V := by rw [hc]; exact compT_V _ _ _ _
  unfold KidsK at hK
  rw [if_pos h5] at hK
  rw [hc] at he
  obtain ⟨k1, k2⟩ := hK he
  have h2 := cell_w z.t hk ((compT most z.t.name z.t.args.length st).2.1 + 1) 0 z.at_ (compC (compT most z.t.name z.t.args.length st)) h5
  simp only [wts, Todo.w] at hn
  rw [k1]
  simp only [List.append_assoc, List.cons_append, List.nil_append]
  refine ⟨run, ?_, ?_, k2⟩
  · rw [wts_append] at h2 ⊢; simp only [wts] at h2 ⊢; omega
  · rw [h1]; rw [wts_append] at h2 ⊢; simp only [wts] at h2 ⊢; omega

end Go.Proofs.Ytlmcfclonncgbaa
