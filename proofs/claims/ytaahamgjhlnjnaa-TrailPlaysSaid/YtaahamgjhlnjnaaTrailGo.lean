/- What the calls of a script do to the cells and to the trail; undoing brings back what was. -/
import Derived.Test.YtaahamgjhlnjnaaAwake6
import Derived.Test.YtaahamgjhlnjnaaPlay
namespace Go.Proofs.Ytaahamgjhlnjnaa
open Go.RowKit
set_option linter.unusedVariables false

theorem tundo_le (own : Nat → Nat) (idh id ph p : Nat) (most mark : Int) (l : List Int) (L : List (Int × Int)) (w : World) (hh : HP own idh w ph most l) (h : TP own id w p L) (hid : idh ≠ id) (h0 : 0 ≤ mark) (hle : mark ≤ L.length) (hL : L.length < 1000000000) :
    Calls Try.prog 59 #[.pointer (some ⟨p, 0, none⟩), .pointer (some ⟨ph, 0, none⟩), .int .i64 mark] w
      (Does own [idh, id] w fun own' e w' => e = .returned (.int .i64 (L.length - mark)) ∧ HP own' idh w' ph most (undoL l (L.drop mark.toNat).reverse) ∧ TP own' id w' p (L.take mark.toNat)) := by
  by_cases hlt : mark < L.length
  · exact tundo_in own idh id ph p most mark l L w hh h hid h0 hlt hL
  · refine (tundo_out own id p _ mark L w h (by omega) (by omega) (by omega) hL).mono fun e w' hq => ?_
    obtain ⟨rfl, n, rfl⟩ := hq
    have e1 : mark.toNat = L.length := by omega
    refine ⟨own, (Ext.refl _ _ _).drewN _, by congr 2; omega, ?_, ?_⟩
    · rw [e1, List.drop_length]; exact hh.dr n
    · rw [e1, List.take_length]; exact h.dr n

theorem take_stay {α : Type} (l : List α) (m k : Nat) (h : m ≤ k) : (l.take m).take k = l.take m := by rw [List.take_take, Nat.min_eq_right h]
/-- One Set of a script: the cells, the entries. -/
def tstep (s : List Int × List (Int × Int)) (x : GCall) : List Int × List (Int × Int) := (setL s.1 x.at_ x.c, keptL s.1 s.2 x.at_)
def tgo (s : List Int × List (Int × Int)) (xs : List GCall) : List Int × List (Int × Int) := xs.foldl tstep s
theorem tgo_nil (s : List Int × List (Int × Int)) : tgo s [] = s := rfl
theorem tgo_append (s : List Int × List (Int × Int)) (xs ys : List GCall) : tgo s (xs ++ ys) = tgo (tgo s xs) ys := by simp [tgo]
theorem tgo_succ (s : List Int × List (Int × Int)) (xs : List GCall) (k : Nat) (x : GCall) (h : xs[k]? = some x) : tgo s (xs.take (k + 1)) = tstep (tgo s (xs.take k)) x := by
  obtain ⟨hk, rfl⟩ := List.getElem?_eq_some_iff.1 h
  rw [List.take_succ_eq_append_getElem hk, tgo_append]; rfl
theorem keptL_length (l : List Int) (L : List (Int × Int)) (i : Int) : L.length ≤ (keptL l L i).length ∧ (keptL l L i).length ≤ L.length + 1 := by
  unfold keptL; split <;> simp
theorem tgo_length : ∀ (xs : List GCall) (s : List Int × List (Int × Int)), (tgo s xs).1.length = s.1.length ∧ s.2.length ≤ (tgo s xs).2.length ∧ (tgo s xs).2.length ≤ s.2.length + xs.length
  | [], s => ⟨rfl, Nat.le_refl _, Nat.le_refl _⟩
  | x :: xs, s => by
    have h := tgo_length xs (tstep s x)
    have h1 : (tstep s x).1.length = s.1.length := setL_length _ _ _
    have h2 := keptL_length s.1 s.2 x.at_
    have h3 : (tstep s x).2.length = (keptL s.1 s.2 x.at_).length := rfl
    show (tgo (tstep s x) xs).1.length = _ ∧ _ ≤ (tgo (tstep s x) xs).2.length ∧ (tgo (tstep s x) xs).2.length ≤ _
    rw [List.length_cons]
    omega
theorem undoL_append (l : List Int) (a b : List (Int × Int)) : undoL l (a ++ b) = undoL (undoL l a) b := by simp [undoL]
/-- Set and undone: as it was. -/
theorem set_back (l : List Int) (i c : Int) (h : inB l i = true) : setL (setL l i c) i (l.getD i.toNat 0) = l := by
  have h1 : inB (l.set i.toNat c) i = true := by rw [inB_iff] at h ⊢; simpa using h
  unfold setL
  rw [if_pos h, if_pos h1, List.set_set]
  have hi := inB_iff.1 h
  apply List.ext_getElem? 
  intro j
  rw [List.getElem?_set]
  split
  · rename_i e; subst e
    have : i.toNat < l.length := by omega
    simp [this]
  · rfl
theorem tstep_back (s : List Int × List (Int × Int)) (x : GCall) : ∃ E, (tstep s x).2 = s.2 ++ E ∧ undoL (tstep s x).1 E.reverse = s.1 := by
  unfold tstep keptL
  by_cases h : inB s.1 x.at_ = true
  · rw [if_pos h]
    exact ⟨[(x.at_, s.1.getD x.at_.toNat 0)], rfl, set_back _ _ _ h⟩
  · rw [if_neg h]
    refine ⟨[], by simp, ?_⟩
    unfold setL; rw [if_neg h]; rfl
/-- WHAT WAS SET IS AS IT WAS. -/
theorem tgo_back : ∀ (xs : List GCall) (s : List Int × List (Int × Int)), ∃ E, (tgo s xs).2 = s.2 ++ E ∧ undoL (tgo s xs).1 E.reverse = s.1
  | [], s => ⟨[], by simp [tgo], rfl⟩
  | x :: xs, s => by
    obtain ⟨E, h1, h2⟩ := tgo_back xs (tstep s x)
    obtain ⟨E', h3, h4⟩ := tstep_back s x
    refine ⟨E' ++ E, ?_, ?_⟩
    · show (tgo (tstep s x) xs).2 = _
      rw [h1, h3, List.append_assoc]
    · show undoL (tgo (tstep s x) xs).1 _ = _
      rw [List.reverse_append, undoL_append, h2, h4]
theorem tgo_undo (xs : List GCall) (s : List Int × List (Int × Int)) : undoL (tgo s xs).1 ((tgo s xs).2.drop s.2.length).reverse = s.1 ∧ (tgo s xs).2.take s.2.length = s.2 := by
  obtain ⟨E, h1, h2⟩ := tgo_back xs s
  rw [h1]
  simp [h2]
theorem undo_parts (l : List Int) (L : List (Int × Int)) (m : Nat) : undoL (undoL l (L.drop m).reverse) (L.take m).reverse = undoL l L.reverse := by
  rw [← undoL_append, ← List.reverse_append, List.take_append_drop]

end Go.Proofs.Ytaahamgjhlnjnaa
