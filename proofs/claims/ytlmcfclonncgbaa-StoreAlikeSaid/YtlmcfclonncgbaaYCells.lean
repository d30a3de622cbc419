/- A term's cell laid (package store): all kinds at once. -/
import Derived.Test.YtlmcfclonncgbaaYCell
namespace Go.Proofs.Ytlmcfclonncgbaa
open Go.RowKit
set_option linter.unusedVariables false
set_option linter.unusedSimpArgs false

def cellR (most : Int) (t : Tm) (at_ : Int) (st : SS) : SS × Int × Int :=
  if t.kind = 5 then ((compT most t.name t.args.length st).1, compC (compT most t.name t.args.length st), (compT most t.name t.args.length st).2.2) else putT most (cl t) at_ st
/-- What a compound's stack gets. -/
def KidsK (own : Nat → Nat) (w : World) (most : Int) (t : Tm) (at_ : Int) (st : SS) (K : List TD) : Prop :=
  if t.kind = 5 then ((compT most t.name t.args.length st).2.2 = 0 → (K.map TD.spec).reverse = todos (cls t.args) ((compT most t.name t.args.length st).2.1 + 1) ++ [.laid at_ (compC (compT most t.name t.args.length st))] ∧ ∀ z ∈ K, TdOk own w z ∧ (z.laid = false → z.t ∈ t.args)) else K = []
theorem CellEnd.imp {own : Nat → Nat} {idh ida idm idy idv : Nat} {w : World} {y ph pa mb : Nat} {most : Int} {stk : List TD} {N : Nat} {st st' : SS} {P P' : List TD → Prop} (h : CellEnd own idh ida idm idy idv w y ph pa mb most stk N st P) (he : st = st') (hp : ∀ K, P K → P' K) : CellEnd own idh ida idm idy idv w y ph pa mb most stk N st' P' := by
  subst he
  obtain ⟨h1, h2, h3, v, K, h4, h5, h6, h7⟩ := h
  exact ⟨h1, h2, h3, v, K, h4, h5, h6, hp K h7⟩
theorem ycell_all (own : Nat → Nat) (idh ida idm idy idv : Nat) (hids : Ids idh ida idm idy idv) (w : World) (y ph pa mb : Nat) (most : Int) (stk : List TD) (N : Nat) (st : SS) (h : Lay own idh ida idm idy idv w y ph pa mb most stk N st)
    (td : TD) (hT : TmS own w td.t (.slice td.A td.l td.c)) (hk : Kinds td.t) (hf : fine (cl td.t)) (hat0 : -1 ≤ td.at_) (ha1 : td.at_ < 1048576) :
    Calls Try.prog 87 #[.pointer (some ⟨y, 0, none⟩), td.val] w (Does own [idh, ida, idm, idy, idv] w fun own' e w' => e = .returned (retC (cellR most td.t td.at_ st)) ∧ CellEnd own' idh ida idm idy idv w' y ph pa mb most stk N (cellR most td.t td.at_ st).1 (KidsK own' w' most td.t td.at_ st)) := by
  obtain ⟨t, A, len, cap, at_, laid, x⟩ := td
  obtain ⟨k, s, n, re, im, args⟩ := t
  dsimp only at hT hk hf hat0 ha1 ⊢
  have hr := hT.rng
  have hk15 : 1 ≤ k ∧ k ≤ 5 := by cases hk <;> omega
  rcases cl_cases k s n re im args hk15.1 hk15.2 with ⟨rfl, e⟩ | ⟨rfl, e⟩ | ⟨rfl, e⟩ | ⟨rfl, e⟩ | ⟨rfl, e⟩
  · have hc : cellR most (.mk 1 s n re im args) at_ st = varT most n at_ st := by unfold cellR; rw [if_neg (by simp [Tm.kind]), e]; rfl
    rw [hc]
    refine (ycell_var own idh ida idm idy idv hids w y ph pa mb most stk N st h s n re im args A len cap at_ laid x hr.2.1 ha1).mono ?_
    rintro e' w' ⟨own', x', h1, h2⟩
    exact ⟨own', x', h1, h2.imp rfl (fun K hK => by unfold KidsK; rw [if_neg (by simp [Tm.kind])]; exact hK)⟩
  · have hc : cellR most (.mk 2 s n re im args) at_ st = (⟨st.l, numL st.L s, st.V⟩, numN st.L s * 8 + 2, numE st.L s) := by unfold cellR; rw [if_neg (by simp [Tm.kind]), e]; rfl
    rw [hc]
    refine (ycell_atom own idh ida idm idy idv hids w y ph pa mb most stk N st h s n re im args A len cap at_ laid x).mono ?_
    rintro e' w' ⟨own', x', h1, h2⟩
    exact ⟨own', x', h1, h2.imp rfl (fun K hK => by unfold KidsK; rw [if_neg (by simp [Tm.kind])]; exact hK)⟩
  · by_cases hs : isSmall n
    · have hc : cellR most (.mk 3 s n re im args) at_ st = (st, smallC n, 0) := by unfold cellR; rw [if_neg (by simp [Tm.kind]), e]; simp only [putT]; rw [if_pos hs]
      rw [hc]
      refine (ycell_small own idh ida idm idy idv hids w y ph pa mb most stk N st h s n re im args A len cap at_ laid x hr.2.1 hs).mono ?_
      rintro e' w' ⟨own', x', h1, h2⟩
      exact ⟨own', x', h1, h2.imp rfl (fun K hK => by unfold KidsK; rw [if_neg (by simp [Tm.kind])]; exact hK)⟩
    · have hc : cellR most (.mk 3 s n re im args) at_ st = wordsT most 4 [u64 n] st := by unfold cellR; rw [if_neg (by simp [Tm.kind]), e]; simp only [putT]; rw [if_neg hs]
      rw [hc]
      refine (ycell_big own idh ida idm idy idv hids w y ph pa mb most stk N st h s n re im args A len cap at_ laid x hr.2.1 hs).mono ?_
      rintro e' w' ⟨own', x', h1, h2⟩
      exact ⟨own', x', h1, h2.imp rfl (fun K hK => by unfold KidsK; rw [if_neg (by simp [Tm.kind])]; exact hK)⟩
  · have hc : cellR most (.mk 4 s n re im args) at_ st = wordsT most 5 [re, im] st := by unfold cellR; rw [if_neg (by simp [Tm.kind]), e]; rfl
    rw [hc]
    refine (ycell_cpx own idh ida idm idy idv hids w y ph pa mb most stk N st h s n re im args A len cap at_ laid x hr.2.2.1 hr.2.2.2.1).mono ?_
    rintro e' w' ⟨own', x', h1, h2⟩
    exact ⟨own', x', h1, h2.imp rfl (fun K hK => by unfold KidsK; rw [if_neg (by simp [Tm.kind])]; exact hK)⟩
  · have hc : cellR most (.mk 5 s n re im args) at_ st = ((compT most s args.length st).1, compC (compT most s args.length st), (compT most s args.length st).2.2) := by unfold cellR; rw [if_pos (show (Tm.mk 5 s n re im args).kind = 5 from rfl)]; rfl
    rw [hc]
    rw [e] at hf
    obtain ⟨f1, f2, f3, f4⟩ := hf
    rw [cls_length] at f2 f3
    refine (ycell_comp own idh ida idm idy idv hids w y ph pa mb most stk N st h s n re im args A len cap at_ laid x hT f2 f3 hat0 ha1).mono ?_
    rintro e' w' ⟨own', x', h1, h2⟩
    exact ⟨own', x', h1, h2.imp rfl (fun K hK => by unfold KidsK; rw [if_pos (show (Tm.mk 5 s n re im args).kind = 5 from rfl)]; exact hK)⟩

end Go.Proofs.Ytlmcfclonncgbaa
