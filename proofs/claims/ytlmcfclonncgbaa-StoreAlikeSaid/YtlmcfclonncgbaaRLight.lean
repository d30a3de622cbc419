/- Light of several terms (package elenchusref1). -/
import Derived.Test.YtlmcfclonncgbaaLight
namespace Go.Proofs.Ytlmcfclonncgbaa
open Go.RowKit
set_option linter.unusedVariables false
set_option linter.unusedSimpArgs false

/-- Light of several: how many nodes may still come, term by term. -/
def lightA : List Tm → Nat → Int → Bool
  | [], _, _ => true
  | t :: ts, i, left => if 100 ≤ i ∨ lightF t 1 left < 0 then false else lightA ts (i + 1) (lightF t 1 left)
theorem lightA_cons (t : Tm) (ts : List Tm) (i : Nat) (left : Int) : lightA (t :: ts) i left = if 100 ≤ i ∨ lightF t 1 left < 0 then false else lightA ts (i + 1) (lightF t 1 left) := rfl
set_option maxHeartbeats 1600000 in
set_option maxRecDepth 100000 in
theorem rlight_any (args : List Tm) (A : Option Addr) (len cap : Nat) (own : Nat → Nat) (w : World) (hL : TmL own w args A len cap) :
    Calls Try.prog 23 #[.slice A len cap] w (Does own [] w fun own' e w' => e = .returned (.bool (lightA args 0 4000))) := by
  have hlen := hL.1
  have hle := hL.2.1
  have hmax := hL.2.2.1
  unfold maxLen at hmax
  have hgo : ∀ own' w', Ext own own' [] w w' → TmL own' w' args A len cap := fun own' w' x => hL.keep x (by simp)
  have HGO := Lib.hid hgo
  have HLEN := Lib.hid hlen
  clear hgo hL hlen
  go_enter Try.func23, Try.ntmps23
  go_wp2_with fail
  go_loopw [8, 3] (fun v u wr => ∃ (k : Nat) (left' : Int) (own' : Nat → Nat), v = .int .i64 k ∧ u = .int .i64 left' ∧ k ≤ len ∧ Ext own own' [] w wr ∧ 0 ≤ left' ∧ left' ≤ 4000 ∧ lightA (args.drop k) k left' = lightA args 0 4000) (fun v _ _ => len - (intOf v).toNat)
  case atStart => exact ⟨0, 4000, own, rfl, rfl, by omega, (Ext.refl _ _ _), by omega, by omega, rfl⟩
  case round =>
    obtain ⟨k, left', own', rfl, rfl, hk, x, hle0, hle1, hinv⟩ := hrel
    by_cases hlt : k < len
    · have hL := HGO.out own' wr x
      obtain ⟨b, o, rfl⟩ := hL.addr (by omega)
      obtain ⟨t, sl, ht, hT, c0, c1, c2, c3, c4, c5⟩ := hL.at k hlt
      have hdrop : args.drop k = t :: args.drop (k + 1) := by rw [List.drop_eq_getElem_cons (List.getElem?_eq_some_iff.1 ht).1, (List.getElem?_eq_some_iff.1 ht).2]
      rw [hdrop] at hinv
      obtain ⟨A', l', cp', rfl, _⟩ := hT.args
      have hlf := lightF_le t 1 left'
      have HINV := Lib.hid hinv
      have HT := Lib.hid hT
      clear hinv hT ht hdrop hL
      go_wp2_with fail
      refine (light_any t _ 1 left' own' _ ?_ (by omega) (by omega) (by omega) (by omega)).mono ?_
      · exact TmS.keep ((Ext.refl own' [] wr).alloc _) (by simp) t _ HT.out
      rintro e w2 ⟨own2, x2, rfl⟩
      have hun := HINV.out
      rw [lightA_cons] at hun
      by_cases hz : 100 ≤ k ∨ lightF t 1 left' < 0
      · rw [if_pos hz] at hun
        have HU := Lib.hid hun
        clear hun
        by_cases hi : 100 ≤ k
        · have hi' : (100 : Int) ≤ (k : Int) := by omega
          go_wp2_with fail
          go_ret
          exact ⟨own2, (x.alloc _).trans x2, by rw [← HU.out]; rfl⟩
        · have hi' : (k : Int) < 100 := by omega
          have hz' : lightF t 1 left' < 0 := by omega
          go_wp2_with fail
          go_ret
          exact ⟨own2, (x.alloc _).trans x2, by rw [← HU.out]; rfl⟩
      · rw [if_neg hz] at hun
        have HU := Lib.hid hun
        clear hun
        have hi' : (k : Int) < 100 := by omega
        have hz' : 0 ≤ lightF t 1 left' := by omega
        go_wp2_with fail
        go_roundw
        case measure => simp [intOf]; omega
        exact ⟨k + 1, _, own2, by go_num, rfl, by omega, (x.alloc _).trans x2, hz', by omega, HU.out⟩
    · obtain rfl : k = len := by omega
      have hd : args.drop k = [] := List.drop_eq_nil_of_le (by rw [HLEN.out]; exact Nat.le_refl _)
      rw [hd] at hinv
      have HINV := Lib.hid hinv
      clear hinv hd
      go_wp2_with fail
      go_ret
      exact ⟨own', x, by rw [← HINV.out]; rfl⟩

end Go.Proofs.Ytlmcfclonncgbaa
