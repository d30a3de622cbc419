/- AtomsOnce in plain terms: the counts of the numbers. -/
import Derived.Test.YtaahamgjhlnjnaaAtomsLib
namespace Go.Proofs.Ytaahamgjhlnjnaa
open Go.RowKit
set_option linter.unusedVariables false

open Go.Maps (Keyed int_keyed keyOf_int_mk)
def intK (n : Int) : Lit := .int .i64 n
theorem intK_key (n : Int) : WideAt.IsKeyLit (intK n) := trivial
theorem intK_inj {m n : Int} (h : intK m = intK n) : m = n := by unfold intK at h; simpa using h
def cntV (n : Int) : DataW Unit := .lit (.int .i64 n)
/-- What the counts tell: which numbers have come. -/
structure Counts (L : List ByteArray) (D : DataW Unit) (k : Nat) : Prop where
  tidy : Maps.Tidy D
  low : ∀ n, Maps.has D (intK n) = true → 0 ≤ n ∧ n < L.length ∧ ∃ c : Int, D.atKey (intK n) (cntV 0) = cntV c ∧ 1 ≤ c ∧ c ≤ k
  all : ∀ n : Int, 2 ≤ n → n < L.length → Maps.has D (intK n) = true
  size : Maps.size D + 2 = L.length + (Maps.has D (intK 0)).toNat + (Maps.has D (intK 1)).toNat
theorem Counts.start : Counts names0 (.map []) 0 := ⟨Maps.tidy_empty, fun n h => by simp [Maps.has] at h, fun n h1 h2 => by simp [names0] at h2; omega, rfl⟩
theorem Counts.get {L : List ByteArray} {D : DataW Unit} {k : Nat} (h : Counts L D k) (n : Int) : ∃ c : Int, D.atKey (intK n) (cntV 0) = cntV c ∧ 0 ≤ c ∧ c ≤ k := by
  cases hn : Maps.has D (intK n) with
  | true => obtain ⟨_, _, c, h1, h2, h3⟩ := h.low n hn; exact ⟨c, h1, by omega, h3⟩
  | false => exact ⟨0, Maps.atKey_of_not_has hn _, by omega, by omega⟩
theorem Counts.more {L : List ByteArray} {D : DataW Unit} {k : Nat} (h : Counts L D k) : Counts L D (k + 1) :=
  ⟨h.tidy, fun n hn => by obtain ⟨h0, h1, c, h2, h3, h4⟩ := h.low n hn; exact ⟨h0, h1, c, h2, h3, by omega⟩, h.all, h.size⟩
theorem has_put (D : DataW Unit) (h : Maps.IsMap D) (m n : Int) (d : DataW Unit) : Maps.has (D.put (intK n) d) (intK m) = (decide (m = n) || Maps.has D (intK m)) := by
  by_cases e : m = n
  · subst e; rw [Maps.has_put_same h (intK_key m)]; simp
  · rw [Maps.has_put_other (fun h => e (intK_inj h))]; simp [e]
theorem Counts.put {L : List ByteArray} {D : DataW Unit} {k : Nat} (h : Counts L D k) (hL : 2 ≤ L.length) (s : ByteArray) (hs : s.size ≤ 200) (hf : L.length < 4096) {c : Int} (hc : D.atKey (intK (idxL (numL L s) s)) (cntV 0) = cntV c) (h0 : 0 ≤ c) (h1 : c ≤ k) :
    Counts (numL L s) (D.put (intK (idxL (numL L s) s)) (cntV (c + 1))) (k + 1) := by
  have hD := h.tidy.isMap
  have hsz := h.size
  have hsp := Maps.size_put h.tidy (k := intK (idxL (numL L s) s)) (cntV (c + 1))
  obtain ⟨hm, _, _⟩ := numL_mem L s hs hf
  have hlt : idxL (numL L s) s < (numL L s).length := by simpa [memB] using hm
  obtain ⟨n, hn⟩ : ∃ n : Nat, idxL (numL L s) s = n := ⟨_, rfl⟩
  have key : ((numL L s).length = L.length ∧ (n : Nat) < L.length) ∨ ((numL L s).length = L.length + 1 ∧ n = L.length) := by
    by_cases hms : memB L s = true
    · left
      have e : numL L s = L := by unfold numL; rw [if_neg (by omega), if_pos hms]
      rw [e] at hn hlt
      rw [e]
      exact ⟨rfl, by omega⟩
    · right
      have hms' : memB L s = false := by simpa using hms
      have e : numL L s = L ++ [s] := by unfold numL; rw [if_neg (by omega), if_neg hms, if_neg (by omega)]
      rw [e] at hn ⊢
      rw [idxL_new L s hms'] at hn
      exact ⟨by simp, hn.symm⟩
  rw [hn] at hc hsp ⊢
  refine ⟨h.tidy.put (intK_key _) _, ?_, ?_, ?_⟩
  · intro m hm2
    rw [has_put D hD] at hm2
    by_cases e : m = n
    · subst e
      refine ⟨by omega, by omega, c + 1, Maps.atKey_put_same hD (intK_key _) _ _, by omega, by omega⟩
    · simp [e] at hm2
      obtain ⟨g0, g1, c', g2, g3, g4⟩ := h.low m hm2
      refine ⟨g0, by omega, c', ?_, g3, by omega⟩
      rw [Maps.atKey_put_other (fun h => e (intK_inj h))]
      exact g2
  · intro m hm0 hm1
    rw [has_put D hD]
    by_cases e : m = n
    · simp [e]
    · simp only [e, decide_false, Bool.false_or]
      exact h.all m hm0 (by omega)
  · rw [hsp, has_put D hD, has_put D hD]
    rcases key with ⟨k1, k2⟩ | ⟨k1, k2⟩
    · rw [k1]
      cases hn2 : Maps.has D (intK n) with
      | true =>
        simp only [if_true]
        have e0 : (decide ((0 : Int) = n) || Maps.has D (intK 0)) = Maps.has D (intK 0) := by
          by_cases e : (0 : Int) = n
          · rw [← e] at hn2; simp [hn2]
          · simp [e]
        have e1 : (decide ((1 : Int) = n) || Maps.has D (intK 1)) = Maps.has D (intK 1) := by
          by_cases e : (1 : Int) = n
          · rw [← e] at hn2; simp [hn2]
          · simp [e]
        rw [e0, e1]; exact hsz
      | false =>
        have hn3 : n < 2 := by
          rcases Nat.lt_or_ge n 2 with g | g
          · exact g
          · have := h.all n (by omega) (by omega)
            rw [hn2] at this; cases this
        rw [if_neg (by simp)]
        rcases (by omega : n = 0 ∨ n = 1) with rfl | rfl
        · have h2 : Maps.has D (intK 0) = false := hn2
          rw [h2] at hsz ⊢
          simp at hsz ⊢
          omega
        · have h2 : Maps.has D (intK 1) = false := hn2
          rw [h2] at hsz ⊢
          simp at hsz ⊢
          omega
    · rw [k1]
      have hn2 : Maps.has D (intK n) = false := by
        cases hq : Maps.has D (intK n) with
        | false => rfl
        | true => obtain ⟨_, g, _⟩ := h.low n hq; omega
      have e0 : decide ((0 : Int) = n) = false := by simp; omega
      have e1 : decide ((1 : Int) = n) = false := by simp; omega
      simp only [hn2, e0, e1, Bool.false_or]
      simp
      omega
/-- Each name that was asked for is there, and counted. -/
def Seen (L : List ByteArray) (D : DataW Unit) (xs : List ByteArray) (k : Nat) : Prop :=
  ∀ i s, i < k → i < 100 → xs[i]? = some s → s.size ≤ 200 → memB L s = true ∧ Maps.has D (intK (idxL L s)) = true
theorem Seen.skip {L : List ByteArray} {D : DataW Unit} {xs : List ByteArray} {k : Nat} (h : Seen L D xs k) (hk : 100 ≤ k ∨ ∀ s, xs[k]? = some s → 200 < s.size) : Seen L D xs (k + 1) := by
  intro i s hi h100 hs hsz
  by_cases e : i = k
  · subst e
    rcases hk with hk | hk
    · omega
    · have := hk s hs; omega
  · exact h i s (by omega) h100 hs hsz
theorem Seen.put {L : List ByteArray} {D : DataW Unit} {xs : List ByteArray} {k : Nat} (h : Seen L D xs k) (hD : Maps.IsMap D) {s : ByteArray} (hx : xs[k]? = some s) (hs : s.size ≤ 200) (hf : L.length < 4096) (d : DataW Unit) :
    Seen (numL L s) (D.put (intK (idxL (numL L s) s)) d) xs (k + 1) := by
  intro i t hi h100 ht hsz
  rw [has_put D hD]
  by_cases e : i = k
  · subst e
    rw [hx] at ht
    cases ht
    exact ⟨(numL_mem L s hs hf).1, by simp⟩
  · obtain ⟨h1, h2⟩ := h i t (by omega) h100 ht hsz
    obtain ⟨M, hM, _⟩ := numL_pre L s
    have hi2 : idxL (numL L s) t = idxL L t := by rw [hM]; exact idxL_append L M t (by simpa [memB] using h1)
    refine ⟨by rw [hM, memB_append, h1]; rfl, ?_⟩
    rw [hi2, h2]; simp
theorem names_len (L : List ByteArray) (s : ByteArray) : (numL L s).length ≤ L.length + 1 := by
  obtain ⟨M, hM, h⟩ := numL_pre L s
  rw [hM, List.length_append]; omega
theorem int_key {n : Int} (h0 : -9223372036854775808 ≤ n) (h1 : n ≤ 9223372036854775807) : keyOf Try.prog 3 (.int .i64 n) = some (intK n) := keyOf_int_mk Try.underlying3 (WalkArith.wf_i64 (by omega))
theorem law_int : Keyed Try.prog 3 := int_keyed Try.underlying3

end Go.Proofs.Ytaahamgjhlnjnaa
