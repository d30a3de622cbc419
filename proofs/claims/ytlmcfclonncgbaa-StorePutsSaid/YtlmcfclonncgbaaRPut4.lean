/- The reference's put, as a whole. -/
import Derived.Test.YtlmcfclonncgbaaRPut3
namespace Go.Proofs.Ytlmcfclonncgbaa
open Go.RowKit
set_option linter.unusedVariables false
set_option linter.unusedSimpArgs false

theorem fines_each : ∀ l : List Tm, fines (cls l) → ∀ a ∈ l, fine (cl a)
  | [], _, a, h => by simp at h
  | b :: bs, hf, a, h => by
    have hf' : fine (cl b) ∧ fines (cls bs) := hf
    rcases List.mem_cons.1 h with rfl | h
    · exact hf'.1
    · exact fines_each bs hf'.2 a h
theorem rput_any (idh ida idv : Nat) (hids : IdsP idh ida idv) (ph pa q : Nat) (most : Int) : ∀ t : Tm, Kinds t → fine (cl t) → RPutS idh ida idv ph pa q most t := by
  refine Tm.ind ?_
  intro k s n re im args ih hk hf sl own w at_ st h hh ha hV hat hVb
  obtain ⟨A, len, cap, rfl, hL⟩ := h.args
  have hr := h.rng
  have hk15 : 1 ≤ k ∧ k ≤ 5 := by cases hk <;> omega
  rcases cl_cases k s n re im args hk15.1 hk15.2 with ⟨rfl, e⟩ | ⟨rfl, e⟩ | ⟨rfl, e⟩ | ⟨rfl, e⟩ | ⟨rfl, e⟩
  · rw [e] at hVb ⊢
    simp only [nodes] at hVb
    exact rput_var own idh ida idv hids w ph pa q most at_ s n re im A len cap st hh ha hV hr.2.1 hat (by omega)
  · rw [e]
    exact rput_atom own idh ida idv hids w ph pa q most at_ s n re im A len cap st hh ha hV
  · rw [e]
    exact rput_int own idh ida idv hids w ph pa q most at_ s n re im A len cap st hh ha hV hr.2.1.1 hr.2.1.2
  · rw [e]
    exact rput_cpx own idh ida idv hids w ph pa q most at_ s n re im A len cap st hh ha hV
  · rw [e] at hVb hf ⊢
    simp only [nodes] at hVb
    have hf' : s.size ≤ 200 ∧ 1 ≤ (cls args).length ∧ (cls args).length ≤ 20 ∧ fines (cls args) := hf
    have hcl : (cls args).length = args.length := by rw [cls_map]; simp
    have hka := kinds_args hk rfl
    exact rput_comp own idh ida idv hids w ph pa q most at_ s n re im A len cap st hh ha hV args hL (by omega) (by omega) (by omega) (fun a h => ih a h (hka a h) (fines_each args hf'.2.2.2 a h))

end Go.Proofs.Ytlmcfclonncgbaa
