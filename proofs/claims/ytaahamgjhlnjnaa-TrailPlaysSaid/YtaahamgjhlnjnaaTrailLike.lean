/- The law TrailPlays' own like: two heaps of the same cells. -/
import Derived.Test.YtaahamgjhlnjnaaRTrail
import Derived.Outline
namespace Go.Proofs.Ytaahamgjhlnjnaa
open Go.RowKit
set_option linter.unusedVariables false

theorem quietT {P : Program} {f : FuncId} {args : Array Value} {X : World} {F : Nat → World} {v : Value} (h : Calls P f args X (Quiet X v)) (hx : ∀ n, ∃ m, X.drewN n = F m) :
    Calls P f args X fun e w'' => e = .returned v ∧ ∃ m, w'' = F m :=
  h.mono fun _ _ ⟨he, n, hm⟩ => ⟨he, by obtain ⟨m, h2⟩ := hx n; exact ⟨m, by rw [hm, h2]⟩⟩
set_option maxHeartbeats 1600000 in
set_option maxRecDepth 100000 in
theorem like_true (own : Nat → Nat) (i1 i2 p q : Nat) (m1 m2 : Int) (l : List Int) (w : World) (h : HP own i1 w p m1 l) (hr : RH own i2 w q m2 l) :
    Calls Try.prog 73 #[.pointer (some ⟨p, 0, none⟩), .pointer (some ⟨q, 0, none⟩)] w (Quiet w (.bool true)) := by
  obtain ⟨N, hN⟩ : ∃ N, l.length = N := ⟨_, rfl⟩
  have hln := fun n => len_any own i1 p m1 l (w.drewN n) (h.dr n)
  rw [hN] at hln
  obtain ⟨v, hb, hrr, _⟩ := id hr
  obtain ⟨A, cap, rfl, hc⟩ := hrr.form
  have c0 := hb.cell 0 rfl
  rw [hN] at c0 hrr hc
  have HLN := Lib.hid hln
  have HN := Lib.hid hN
  have HRR := Lib.hid hrr
  have hlq := h.len
  rw [hN] at hlq
  have hNb : N ≤ 1048576 := by omega
  clear hln hN hb hrr hlq
  go_enter Try.func73, Try.ntmps73
  go_wp2_with fail
  go_quiet ((go_at_call 53; exact quietT (HLN.out _) (fun n => by first | exact ⟨n, rfl⟩ | exact ⟨_, World.drewN_drewN _ _ _⟩ | exact ⟨_, (World.drewN_drewN _ _ _).trans (congrArg (World.drewN _) (Nat.add_assoc _ _ _))⟩)))
  go_wp2_with fail
  go_loopw [22] (fun v wr => ∃ (j n : Nat), v = .int .i64 j ∧ j ≤ N ∧ wr = w.drewN n) (fun v _ => N - (intOf v).toNat)
  case atStart => exact ⟨0, _, rfl, by omega, rfl⟩
  case round =>
    obtain ⟨j, n, rfl, hj, rfl⟩ := hrel
    by_cases hlt : j < N
    · have hrr := HRR.out
      obtain ⟨g, c, hv, _⟩ := hrr.form_pos (by omega)
      cases hv
      have cj := hrr.cell j (words_get l j (by rw [HN.out]; exact hlt))
      have hg := fun n => get_in own i1 p m1 j l (w.drewN n) (h.dr n) (by omega) (by rw [HN.out]; omega)
      rw [Int.toNat_natCast] at hg
      have HG := Lib.hid hg
      clear hg hrr
      generalize l.getD j 0 = y at *
      go_wp2_with fail
      refine (HG.out _).mono ?_
      rintro e w' ⟨rfl, n1, rfl⟩
      go_wp2_with fail
      go_roundw
      case rel => exact ⟨j + 1, _, by go_num, by omega, rfl⟩
      case measure => simp [intOf]; omega
    · go_wp2_with fail
      go_ret
      exact ⟨rfl, _, rfl⟩

end Go.Proofs.Ytaahamgjhlnjnaa
