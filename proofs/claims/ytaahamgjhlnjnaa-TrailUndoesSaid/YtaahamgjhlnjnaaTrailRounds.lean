/- Layer 6: the rounds of TrailUndoes in plain terms. -/
import Derived.Test.YtaahamgjhlnjnaaTrailLook
namespace Go.Proofs.Ytaahamgjhlnjnaa
open Go.RowKit
set_option linter.unusedVariables false

theorem info_cells : (Try.prog.info? 69).map (fun i => (i.zero, i.size, i.bytes)) = some (some (.slice none 0 0), 1, 24) := by kernel_rfl
/-- The state ahead of round i: the cells, the entries. -/
def sts (l0 : List Int) (rs : List (List GCall)) : Nat → List Int × List (Int × Int)
  | 0 => (l0, [])
  | i + 1 => tgo (sts l0 rs i) ((rs.getD i []).take 20)
theorem sts_length (l0 : List Int) (rs : List (List GCall)) : ∀ i, (sts l0 rs i).1.length = l0.length ∧ (sts l0 rs i).2.length ≤ 20 * i
  | 0 => ⟨rfl, Nat.le_refl _⟩
  | i + 1 => by
    have h := sts_length l0 rs i
    have h2 := tgo_length ((rs.getD i []).take 20) (sts l0 rs i)
    have h3 : ((rs.getD i []).take 20).length ≤ 20 := by rw [List.length_take]; omega
    show (tgo (sts l0 rs i) _).1.length = _ ∧ (tgo (sts l0 rs i) _).2.length ≤ _
    omega
theorem sts_back (l0 : List Int) (rs : List (List GCall)) (i : Nat) : undoL (sts l0 rs (i + 1)).1 ((sts l0 rs (i + 1)).2.drop (sts l0 rs i).2.length).reverse = (sts l0 rs i).1 ∧ (sts l0 rs (i + 1)).2.take (sts l0 rs i).2.length = (sts l0 rs i).2 ∧
    (sts l0 rs i).2.length ≤ (sts l0 rs (i + 1)).2.length :=
  ⟨(tgo_undo _ _).1, (tgo_undo _ _).2, (tgo_length _ _).2.1⟩
/-- The marks ahead of the rounds. -/
def marksL (l0 : List Int) (rs : List (List GCall)) (i : Nat) : List Int := (List.range i).map (fun m => ((sts l0 rs m).2.length : Int))
theorem marksL_succ (l0 : List Int) (rs : List (List GCall)) (i : Nat) : marksL l0 rs (i + 1) = marksL l0 rs i ++ [((sts l0 rs i).2.length : Int)] := by
  unfold marksL; rw [List.range_succ, List.map_append]; rfl
theorem marksL_length (l0 : List Int) (rs : List (List GCall)) (i : Nat) : (marksL l0 rs i).length = i := by simp [marksL]
theorem marksL_get (l0 : List Int) (rs : List (List GCall)) (i m : Nat) (h : m < i) : (nums64 (marksL l0 rs i))[m]? = some (.int .i64 ((sts l0 rs m).2.length : Int)) := by
  simp [nums64, marksL, h]
/-- What was looked at ahead of the rounds: each a row. -/
def Looked (own : Nat → Nat) (w : World) (l0 : List Int) (rs : List (List GCall)) (vs : List Value) : Prop :=
  ∀ m v, vs[m]? = some v → Row own 8 w 24 1 v l0.length (words (sts l0 rs m).1)
theorem Looked.keep {own own' : Nat → Nat} {ids : List Nat} {w w' : World} {l0 : List Int} {rs : List (List GCall)} {vs : List Value} (h : Looked own w l0 rs vs) (x : Ext own own' ids w w') (hi : 8 ∉ ids) : Looked own' w' l0 rs vs :=
  fun m v hv => (h m v hv).keep x hi
theorem Looked.push {own : Nat → Nat} {w : World} {l0 : List Int} {rs : List (List GCall)} {vs : List Value} {v : Value} (h : Looked own w l0 rs vs) (hv : Row own 8 w 24 1 v l0.length (words (sts l0 rs vs.length).1)) : Looked own w l0 rs (vs ++ [v]) := by
  intro m u hu
  rw [List.getElem?_append] at hu
  split at hu
  · exact h m u hu
  · have : m - vs.length = 0 := by
      by_cases e : m - vs.length = 0
      · exact e
      · obtain ⟨q, hq⟩ : ∃ q, m - vs.length = q + 1 := ⟨m - vs.length - 1, by omega⟩
        rw [hq] at hu; simp at hu
    rw [this] at hu
    simp at hu
    subst hu
    have : m = vs.length := by omega
    subst this; exact hv

end Go.Proofs.Ytaahamgjhlnjnaa
