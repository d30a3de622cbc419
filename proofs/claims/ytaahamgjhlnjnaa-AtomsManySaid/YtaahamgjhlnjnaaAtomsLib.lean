/- Small words for the laws on names: a string that came in; a name's number. -/
import Derived.Test.YtaahamgjhlnjnaaAwake2
import Derived.Test.YtaahamgjhlnjnaaCame
namespace Go.Proofs.Ytaahamgjhlnjnaa
open Go.RowKit
set_option linter.unusedVariables false

theorem Came.str {len cap b o : Nat} {w w' : World} {xs : List ByteArray} (h : Came RStr 1 w (some ⟨b, o, none⟩) len cap xs) (hb : Below w.heap.size w w') (k : Nat) (hk : k < len) :
    ∃ s, xs[k]? = some s ∧ w'.cell? ⟨b, o + k, none⟩ = some (.string s) ∧ s.size ≤ maxLen := by
  have hk' : k < xs.length := by rw [h.length]; exact hk
  obtain ⟨b', o', cs, he, hR, _, hc⟩ := h.cell hb k _ (List.getElem?_eq_getElem hk')
  simp at he
  obtain ⟨rfl, rfl⟩ := he
  refine ⟨xs[k], List.getElem?_eq_getElem hk', ?_, hR.2⟩
  have := hc 0 (.string xs[k]) (by rw [hR.1]; rfl)
  rw [Nat.mul_one, Nat.add_zero] at this
  exact this
theorem quietA {P : Program} {f : FuncId} {args : Array Value} {X : World} {F : Nat → World} {v : Value} (h : Calls P f args X (Quiet X v)) (hx : ∀ n, ∃ m, X.drewN n = F m) :
    Calls P f args X fun e w'' => e = .returned v ∧ ∃ m, w'' = F m :=
  h.mono fun _ _ ⟨he, n, hm⟩ => ⟨he, by obtain ⟨m, h2⟩ := hx n; exact ⟨m, by rw [hm, h2]⟩⟩
theorem findN_met {L : List ByteArray} {s : ByteArray} (h : memB L s = true) : ∃ j : Nat, findN L s = j ∧ j < L.length ∧ idxL L s = j := by
  unfold findN
  rw [if_pos h]
  exact ⟨_, rfl, by simpa [memB] using h, rfl⟩
theorem findN_not {L : List ByteArray} {s : ByteArray} (h : memB L s = false) : findN L s = 0 := by
  unfold findN; rw [if_neg (by simp [h])]

end Go.Proofs.Ytaahamgjhlnjnaa
