-- PRINTED BY print.sh 35421559b90ae4d0a3588c463048766b98c2df88dd9212a6774a882060cdf62d: not written by this session
import Derived.Test.YtaahamgjhlnjnaaPCellApartx0
namespace Go.Proofs.Ytaahamgjhlnjnaa.PCellApart
open Go.RowKit Go.Proofs.YtaahamgjhlnjnaaW.PrintWords Go.Proofs.YtaahamgjhlnjnaaW.PrintLast Go.Proofs.YtaahamgjhlnjnaaW.PrintMore
attribute [local go_sem] max2_int min2_int max_two min_two max_three min_three max_four min_four   -- for this text's walks alone
set_option linter.unusedVariables false
set_option linter.unusedSimpArgs false

/-! ### cell_Small: function 25 -/
def cell_Small.f (a0 : Int) : Option (Int × Bool) := if a0 < (-1152921504606846976) then (some (0, false)) else (if a0 > 1152921504606846975 then (some (0, false)) else (some (Go.bits .or .u64 (IntKind.u64.wrap ((IntKind.u64.wrap (a0)) * 8)) 3, true)))
set_option maxHeartbeats 8000000 in
set_option maxRecDepth 100000 in
theorem cell_Small.calls (a0 : Int) (r1 : Int) (r2 : Bool) (w : World) (h : cell_Small.f a0 = some (r1, r2)) :
    Calls Try.prog 25 #[.int .i64 a0] w fun e w' => e = .returned (.tuple #[.int .u64 r1, .bool r2]) ∧ Drawn0 w w' := by
  have H : (if a0 < (-1152921504606846976) then (some (0, false)) else (if a0 > 1152921504606846975 then (some (0, false)) else (some (Go.bits .or .u64 (IntKind.u64.wrap ((IntKind.u64.wrap (a0)) * 8)) 3, true)))) = some (r1, r2) := h
  clear h
  by_cases c2 : a0 < (-1152921504606846976)
  · rw [if_pos c2] at H
    have c2b0 : decide (a0 < (-1152921504606846976)) = true := decide_eq_true c2
    clear c2
    simp only [Option.some.injEq, Prod.mk.injEq] at H
    obtain ⟨rfl, rfl⟩ := H
    go_enter Try.func25, Try.ntmps25
    go_wp2
    go_ret2
    exact ⟨by first | rfl | (simp; done) | (simp [*]; done), by repeat (first | exact Drawn0.refl _ | apply Drawn0.step)⟩
  · rw [if_neg c2] at H
    have c2b0 : decide (a0 < (-1152921504606846976)) = false := decide_eq_false c2
    clear c2
    by_cases c3 : a0 > 1152921504606846975
    · rw [if_pos c3] at H
      have c3b0 : decide (1152921504606846975 < a0) = true := decide_eq_true c3
      clear c3
      simp only [Option.some.injEq, Prod.mk.injEq] at H
      obtain ⟨rfl, rfl⟩ := H
      go_enter Try.func25, Try.ntmps25
      go_wp2
      go_ret2
      exact ⟨by first | rfl | (simp; done) | (simp [*]; done), by repeat (first | exact Drawn0.refl _ | apply Drawn0.step)⟩
    · rw [if_neg c3] at H
      have c3b0 : decide (1152921504606846975 < a0) = false := decide_eq_false c3
      clear c3
      simp only [Option.some.injEq, Prod.mk.injEq] at H
      obtain ⟨rfl, rfl⟩ := H
      go_enter Try.func25, Try.ntmps25
      go_wp2
      go_ret2
      exact ⟨by first | rfl | (simp; done) | (simp [*]; done), by repeat (first | exact Drawn0.refl _ | apply Drawn0.step)⟩

/-! ### cell_Int: function 26 -/
def cell_Int.f (a0 : Int) : Option (Int) := some ((wrap64 (a0)) / 8)
set_option maxHeartbeats 8000000 in
set_option maxRecDepth 100000 in
theorem cell_Int.calls (a0 : Int) (r : Int) (w : World) (h : cell_Int.f a0 = some r) :
    Calls Try.prog 26 #[.int .u64 a0] w fun e w' => e = .returned (.int .i64 r) ∧ Drawn0 w w' := by
  have H : (some ((wrap64 (a0)) / 8)) = some r := h
  clear h
  obtain rfl := Option.some.inj H
  go_enter Try.func26, Try.ntmps26
  go_wp2
  go_ret
  exact ⟨by first | rfl | (simp; done) | (simp [*]; done), by repeat (first | exact Drawn0.refl _ | apply Drawn0.step)⟩

/-! ### cell_Tag: function 30 -/
def cell_Tag.f (a0 : Int) : Option (Int) := some (wrap64 (Go.bits .and .u64 a0 7))
set_option maxHeartbeats 8000000 in
set_option maxRecDepth 100000 in
theorem cell_Tag.calls (a0 : Int) (r : Int) (w : World) (h : cell_Tag.f a0 = some r) :
    Calls Try.prog 30 #[.int .u64 a0] w fun e w' => e = .returned (.int .i64 r) ∧ Drawn0 w w' := by
  have H : (some (wrap64 (Go.bits .and .u64 a0 7))) = some r := h
  clear h
  obtain rfl := Option.some.inj H
  go_enter Try.func30, Try.ntmps30
  go_wp2
  go_ret
  exact ⟨by first | rfl | (simp; done) | (simp [*]; done), by repeat (first | exact Drawn0.refl _ | apply Drawn0.step)⟩

/-! ### cell_Value: function 32 -/
def cell_Value.f (a0 : Int) : Option (Int) := some (a0 / 8)
set_option maxHeartbeats 8000000 in
set_option maxRecDepth 100000 in
theorem cell_Value.calls (a0 : Int) (r : Int) (w : World) (h : cell_Value.f a0 = some r) :
    Calls Try.prog 32 #[.int .u64 a0] w fun e w' => e = .returned (.int .u64 r) ∧ Drawn0 w w' := by
  have H : (some (a0 / 8)) = some r := h
  clear h
  obtain rfl := Option.some.inj H
  go_enter Try.func32, Try.ntmps32
  go_wp2
  go_ret
  exact ⟨by first | rfl | (simp; done) | (simp [*]; done), by repeat (first | exact Drawn0.refl _ | apply Drawn0.step)⟩

/-! ### elenchuslaw4_awake: function 27 -/
def elenchuslaw4_awake.f  : Option (Bool) := (cell_Small.f (-1)).bind fun bt101 => (if bt101.2 = true then ((cell_Tag.f bt101.1).bind fun t103 => (if t103 = 3 then ((cell_Value.f bt101.1).bind fun t104 => (if t104 = 2305843009213693951 then ((cell_Int.f bt101.1).bind fun t105 => (some (t105 == (-1)))) else (some false))) else (some false))) else (some false))
set_option maxHeartbeats 8000000 in
set_option maxRecDepth 100000 in
theorem elenchuslaw4_awake.calls  (r : Bool) (w : World) (h : elenchuslaw4_awake.f  = some r) :
    Calls Try.prog 27 #[] w fun e w' => e = .returned (.bool r) ∧ Drawn0 w w' := by
  have H : ((cell_Small.f (-1)).bind fun bt101 => (if bt101.2 = true then ((cell_Tag.f bt101.1).bind fun t103 => (if t103 = 3 then ((cell_Value.f bt101.1).bind fun t104 => (if t104 = 2305843009213693951 then ((cell_Int.f bt101.1).bind fun t105 => (some (t105 == (-1)))) else (some false))) else (some false))) else (some false))) = some r := h
  clear h
  replace H := Option.bind_eq_some_iff.mp H
  obtain ⟨⟨t101, t102⟩, A10, H⟩ := H
  replace H : (if t102 = true then ((cell_Tag.f t101).bind fun t103 => (if t103 = 3 then ((cell_Value.f t101).bind fun t104 => (if t104 = 2305843009213693951 then ((cell_Int.f t101).bind fun t105 => (some (t105 == (-1)))) else (some false))) else (some false))) else (some false)) = some r := H
  have A1 := Aside0.mk A10
  clear A10
  by_cases c2 : t102 = true
  · subst c2
    have H1 : ((cell_Tag.f t101).bind fun t103 => (if t103 = 3 then ((cell_Value.f t101).bind fun t104 => (if t104 = 2305843009213693951 then ((cell_Int.f t101).bind fun t105 => (some (t105 == (-1)))) else (some false))) else (some false))) = some r := by rw [if_pos rfl] at H; exact H
    clear H
    have H := H1
    clear H1
    replace H := Option.bind_eq_some_iff.mp H
    obtain ⟨t103, A30, H⟩ := H
    replace H : (if t103 = 3 then ((cell_Value.f t101).bind fun t104 => (if t104 = 2305843009213693951 then ((cell_Int.f t101).bind fun t105 => (some (t105 == (-1)))) else (some false))) else (some false)) = some r := H
    have A3 := Aside0.mk A30
    clear A30
    by_cases c4 : t103 = 3
    · rw [if_pos c4] at H
      have c4b0 : (t103 == 3) = true := beq_iff_eq.mpr c4
      have c4b1 : (t103 != 3) = false := bne_eq_false_iff_eq.mpr c4
      clear c4
      replace H := Option.bind_eq_some_iff.mp H
      obtain ⟨t104, A50, H⟩ := H
      replace H : (if t104 = 2305843009213693951 then ((cell_Int.f t101).bind fun t105 => (some (t105 == (-1)))) else (some false)) = some r := H
      have A5 := Aside0.mk A50
      clear A50
      by_cases c6 : t104 = 2305843009213693951
      · rw [if_pos c6] at H
        have c6b0 : (t104 == 2305843009213693951) = true := beq_iff_eq.mpr c6
        have c6b1 : (t104 != 2305843009213693951) = false := bne_eq_false_iff_eq.mpr c6
        clear c6
        replace H := Option.bind_eq_some_iff.mp H
        obtain ⟨t105, A70, H⟩ := H
        replace H : (some (t105 == (-1))) = some r := H
        have A7 := Aside0.mk A70
        clear A70
        obtain rfl := Option.some.inj H
        go_enter Try.func27, Try.ntmps27
        go_wp2_with (first | ((with_reducible refine gate_callee (f := 25) rfl ?_); refine goesL_ (some 4) rfl rfl Try.func25 (by kernel_rfl) rfl #[.int .i64 (-1)] rfl (by (try simp only [List.map_toArray, List.map_cons, List.map_nil]); first | done | rfl | (simp only [List.length_drop, List.length_take]; rfl)) ?_; (with_reducible refine (cell_Small.calls (-1) t101 true _ A1.out).mono ?_); rintro e w' ⟨rfl, ⟨nd, rfl⟩⟩; refine ⟨_, rfl, ?_⟩) | (go_at_call 30; (with_reducible refine (cell_Tag.calls t101 t103 _ A3.out).mono ?_); rintro e w' ⟨rfl, ⟨nd, rfl⟩⟩) | (go_at_call 32; (with_reducible refine (cell_Value.calls t101 t104 _ A5.out).mono ?_); rintro e w' ⟨rfl, ⟨nd, rfl⟩⟩) | (go_at_call 26; (with_reducible refine (cell_Int.calls t101 t105 _ A7.out).mono ?_); rintro e w' ⟨rfl, ⟨nd, rfl⟩⟩))
        go_ret
        exact ⟨by first | rfl | (simp; done) | (simp [*]; done), by repeat (first | exact Drawn0.refl _ | apply Drawn0.step)⟩
      · rw [if_neg c6] at H
        have c6b0 : (t104 == 2305843009213693951) = false := beq_eq_false_iff_ne.mpr c6
        have c6b1 : (t104 != 2305843009213693951) = true := bne_iff_ne.mpr c6
        obtain rfl := Option.some.inj H
        go_enter Try.func27, Try.ntmps27
        go_wp2_with (first | ((with_reducible refine gate_callee (f := 25) rfl ?_); refine goesL_ (some 4) rfl rfl Try.func25 (by kernel_rfl) rfl #[.int .i64 (-1)] rfl (by (try simp only [List.map_toArray, List.map_cons, List.map_nil]); first | done | rfl | (simp only [List.length_drop, List.length_take]; rfl)) ?_; (with_reducible refine (cell_Small.calls (-1) t101 true _ A1.out).mono ?_); rintro e w' ⟨rfl, ⟨nd, rfl⟩⟩; refine ⟨_, rfl, ?_⟩) | (go_at_call 30; (with_reducible refine (cell_Tag.calls t101 t103 _ A3.out).mono ?_); rintro e w' ⟨rfl, ⟨nd, rfl⟩⟩) | (go_at_call 32; (with_reducible refine (cell_Value.calls t101 t104 _ A5.out).mono ?_); rintro e w' ⟨rfl, ⟨nd, rfl⟩⟩))
        go_ret
        exact ⟨by first | rfl | (simp; done) | (simp [*]; done), by repeat (first | exact Drawn0.refl _ | apply Drawn0.step)⟩
    · rw [if_neg c4] at H
      have c4b0 : (t103 == 3) = false := beq_eq_false_iff_ne.mpr c4
      have c4b1 : (t103 != 3) = true := bne_iff_ne.mpr c4
      obtain rfl := Option.some.inj H
      go_enter Try.func27, Try.ntmps27
      go_wp2_with (first | ((with_reducible refine gate_callee (f := 25) rfl ?_); refine goesL_ (some 4) rfl rfl Try.func25 (by kernel_rfl) rfl #[.int .i64 (-1)] rfl (by (try simp only [List.map_toArray, List.map_cons, List.map_nil]); first | done | rfl | (simp only [List.length_drop, List.length_take]; rfl)) ?_; (with_reducible refine (cell_Small.calls (-1) t101 true _ A1.out).mono ?_); rintro e w' ⟨rfl, ⟨nd, rfl⟩⟩; refine ⟨_, rfl, ?_⟩) | (go_at_call 30; (with_reducible refine (cell_Tag.calls t101 t103 _ A3.out).mono ?_); rintro e w' ⟨rfl, ⟨nd, rfl⟩⟩))
      go_ret
      exact ⟨by first | rfl | (simp; done) | (simp [*]; done), by repeat (first | exact Drawn0.refl _ | apply Drawn0.step)⟩
  · replace c2 := Bool.eq_false_iff.mpr c2
    subst c2
    have H1 : (some false) = some r := by rw [if_neg (show ¬ (false = true) by decide)] at H; exact H
    clear H
    have H := H1
    clear H1
    obtain rfl := Option.some.inj H
    go_enter Try.func27, Try.ntmps27
    go_wp2_with (first | ((with_reducible refine gate_callee (f := 25) rfl ?_); refine goesL_ (some 4) rfl rfl Try.func25 (by kernel_rfl) rfl #[.int .i64 (-1)] rfl (by (try simp only [List.map_toArray, List.map_cons, List.map_nil]); first | done | rfl | (simp only [List.length_drop, List.length_take]; rfl)) ?_; (with_reducible refine (cell_Small.calls (-1) t101 false _ A1.out).mono ?_); rintro e w' ⟨rfl, ⟨nd, rfl⟩⟩; refine ⟨_, rfl, ?_⟩))
    go_ret
    exact ⟨by first | rfl | (simp; done) | (simp [*]; done), by repeat (first | exact Drawn0.refl _ | apply Drawn0.step)⟩

/-! ### cell_Make: function 28 -/
def cell_Make.f (a0 : Int) (a1 : Int) : Option (Int × Bool) := if a0 < 0 then (some (0, false)) else (if a0 > 6 then (some (0, false)) else (if a1 ≥ 2305843009213693952 then (some (0, false)) else (some (Go.bits .or .u64 (IntKind.u64.wrap (a1 * 8)) (IntKind.u64.wrap (a0)), true))))
set_option maxHeartbeats 8000000 in
set_option maxRecDepth 100000 in
theorem cell_Make.calls (a0 : Int) (a1 : Int) (r1 : Int) (r2 : Bool) (w : World) (h : cell_Make.f a0 a1 = some (r1, r2)) :
    Calls Try.prog 28 #[.int .i64 a0, .int .u64 a1] w fun e w' => e = .returned (.tuple #[.int .u64 r1, .bool r2]) ∧ Drawn0 w w' := by
  have H : (if a0 < 0 then (some (0, false)) else (if a0 > 6 then (some (0, false)) else (if a1 ≥ 2305843009213693952 then (some (0, false)) else (some (Go.bits .or .u64 (IntKind.u64.wrap (a1 * 8)) (IntKind.u64.wrap (a0)), true))))) = some (r1, r2) := h
  clear h
  by_cases c3 : a0 < 0
  · rw [if_pos c3] at H
    have c3b0 : decide (a0 < 0) = true := decide_eq_true c3
    clear c3
    simp only [Option.some.injEq, Prod.mk.injEq] at H
    obtain ⟨rfl, rfl⟩ := H
    go_enter Try.func28, Try.ntmps28
    go_wp2
    go_ret2
    exact ⟨by first | rfl | (simp; done) | (simp [*]; done), by repeat (first | exact Drawn0.refl _ | apply Drawn0.step)⟩
  · rw [if_neg c3] at H
    have c3b0 : decide (a0 < 0) = false := decide_eq_false c3
    clear c3
    by_cases c4 : a0 > 6
    · rw [if_pos c4] at H
      have c4b0 : decide (6 < a0) = true := decide_eq_true c4
      clear c4
      simp only [Option.some.injEq, Prod.mk.injEq] at H
      obtain ⟨rfl, rfl⟩ := H
      go_enter Try.func28, Try.ntmps28
      go_wp2
      go_ret2
      exact ⟨by first | rfl | (simp; done) | (simp [*]; done), by repeat (first | exact Drawn0.refl _ | apply Drawn0.step)⟩
    · rw [if_neg c4] at H
      have c4b0 : decide (6 < a0) = false := decide_eq_false c4
      clear c4
      by_cases c5 : a1 ≥ 2305843009213693952
      · rw [if_pos c5] at H
        have c5b0 : decide (2305843009213693952 ≤ a1) = true := decide_eq_true c5
        clear c5
        simp only [Option.some.injEq, Prod.mk.injEq] at H
        obtain ⟨rfl, rfl⟩ := H
        go_enter Try.func28, Try.ntmps28
        go_wp2
        go_ret2
        exact ⟨by first | rfl | (simp; done) | (simp [*]; done), by repeat (first | exact Drawn0.refl _ | apply Drawn0.step)⟩
      · rw [if_neg c5] at H
        have c5b0 : decide (2305843009213693952 ≤ a1) = false := decide_eq_false c5
        clear c5
        simp only [Option.some.injEq, Prod.mk.injEq] at H
        obtain ⟨rfl, rfl⟩ := H
        go_enter Try.func28, Try.ntmps28
        go_wp2
        go_ret2
        exact ⟨by first | rfl | (simp; done) | (simp [*]; done), by repeat (first | exact Drawn0.refl _ | apply Drawn0.step)⟩

/-! ### elenchuslaw4_CellApart: function 5 -/
def elenchuslaw4_CellApart.j0 : Nat → Int → Bool → Option (Bool)
  | 0, _, _ => none
  | k + 1, x5, x26 => if x26 = true then (some false) else ((cell_Tag.f x5).bind fun t110 => ((cell_Value.f x5).bind fun t111 => ((cell_Make.f t110 t111).bind fun bt112 => ((cell_Tag.f x5).bind fun t114 => (if (bt112.2 == (decide (t114 ≤ 6))) = true then (if bt112.2 = true then (if bt112.1 = x5 then ((elenchuslaw4_awake.f).bind fun t115 => (some t115)) else (some false)) else ((elenchuslaw4_awake.f).bind fun t116 => (some t116))) else (some false))))))
def elenchuslaw4_CellApart.f (k : Nat) (a0 : Int) (a1 : Int) : Option (Bool) := (cell_Tag.f a0).bind fun t106 => ((cell_Tag.f a1).bind fun t107 => (if t106 = t107 then ((cell_Value.f a0).bind fun t108 => ((cell_Value.f a1).bind fun t109 => (elenchuslaw4_CellApart.j0 k a0 ((a0 == a1) != (t108 == t109))))) else (elenchuslaw4_CellApart.j0 k a0 ((a0 == a1) != false))))
theorem elenchuslaw4_CellApart.mono_l : ∀ k, (∀ y0 y1, LeO (elenchuslaw4_CellApart.j0 k y0 y1) (elenchuslaw4_CellApart.j0 (k + 1) y0 y1))
  | 0 => fun _ _ r h => by simp [elenchuslaw4_CellApart.j0] at h
  | k + 1 => by
    have ih0 := elenchuslaw4_CellApart.mono_l k
    · intro y0 y1
      unfold elenchuslaw4_CellApart.j0
      repeat' first
      | (with_reducible exact ih0 _ _)
      | (with_reducible exact LeO.refl _)
      | (with_reducible exact LeO.none _)
      | (with_reducible refine LeO.ite ?_ ?_)
      | (with_reducible refine LeO.bind ?_ (fun _ => ?_))
      | exact ih0 _ _
      | exact LeO.none _
      | refine LeO.ite ?_ ?_
      | refine LeO.bind ?_ (fun _ => ?_)
theorem elenchuslaw4_CellApart.mono : ∀ a0 a1 k, LeO (elenchuslaw4_CellApart.f k a0 a1) (elenchuslaw4_CellApart.f (k + 1) a0 a1) := by
  intro a0 a1 k
  have ih0 := elenchuslaw4_CellApart.mono_l k
  unfold elenchuslaw4_CellApart.f
  repeat' first
      | (with_reducible exact ih0 _ _)
      | (with_reducible exact LeO.refl _)
      | (with_reducible exact LeO.none _)
      | (with_reducible refine LeO.ite ?_ ?_)
      | (with_reducible refine LeO.bind ?_ (fun _ => ?_))
      | exact ih0 _ _
      | exact LeO.none _
      | refine LeO.ite ?_ ?_
      | refine LeO.bind ?_ (fun _ => ?_)
set_option maxHeartbeats 8000000 in
set_option maxRecDepth 100000 in
theorem elenchuslaw4_CellApart.calls (k : Nat) (a0 : Int) (a1 : Int) (r : Bool) (w : World) (h : elenchuslaw4_CellApart.f k a0 a1 = some r) :
    Calls Try.prog 5 #[.int .u64 a0, .int .u64 a1] w fun e w' => e = .returned (.bool r) ∧ Drawn0 w w' := by
  have H : ((cell_Tag.f a0).bind fun t106 => ((cell_Tag.f a1).bind fun t107 => (if t106 = t107 then ((cell_Value.f a0).bind fun t108 => ((cell_Value.f a1).bind fun t109 => (elenchuslaw4_CellApart.j0 k a0 ((a0 == a1) != (t108 == t109))))) else (elenchuslaw4_CellApart.j0 k a0 ((a0 == a1) != false))))) = some r := h
  clear h
  have HC3 := Aside0.mk H
  clear H
  go_enter Try.func5, Try.ntmps5
  go_upto_region 2 with (fail)
  go_cut [26] (fun v26 wc => ∃ (kq : Nat) (x26_2 : Bool), v26 = .bool x26_2 ∧ Aside0 (elenchuslaw4_CellApart.j0 kq a0 x26_2 = some r) ∧ Aside0 (kq ≤ k) ∧ Drawn0 w wc)
  case first =>
    have H := HC3.out
    clear HC3
    replace H := Option.bind_eq_some_iff.mp H
    obtain ⟨t106, A40, H⟩ := H
    replace H : ((cell_Tag.f a1).bind fun t107 => (if t106 = t107 then ((cell_Value.f a0).bind fun t108 => ((cell_Value.f a1).bind fun t109 => (elenchuslaw4_CellApart.j0 k a0 ((a0 == a1) != (t108 == t109))))) else (elenchuslaw4_CellApart.j0 k a0 ((a0 == a1) != false)))) = some r := H
    have A4 := Aside0.mk A40
    clear A40
    replace H := Option.bind_eq_some_iff.mp H
    obtain ⟨t107, A50, H⟩ := H
    replace H : (if t106 = t107 then ((cell_Value.f a0).bind fun t108 => ((cell_Value.f a1).bind fun t109 => (elenchuslaw4_CellApart.j0 k a0 ((a0 == a1) != (t108 == t109))))) else (elenchuslaw4_CellApart.j0 k a0 ((a0 == a1) != false))) = some r := H
    have A5 := Aside0.mk A50
    clear A50
    by_cases c6 : t106 = t107
    · rw [if_pos c6] at H
      have c6b0 : (t106 == t107) = true := beq_iff_eq.mpr c6
      have c6b1 : (t106 != t107) = false := bne_eq_false_iff_eq.mpr c6
      clear c6
      (first | rw [c6b0] | (simp only [i64_w, i32_w]; rw [c6b0]) | skip)
      replace H := Option.bind_eq_some_iff.mp H
      obtain ⟨t108, A70, H⟩ := H
      replace H : ((cell_Value.f a1).bind fun t109 => (elenchuslaw4_CellApart.j0 k a0 ((a0 == a1) != (t108 == t109)))) = some r := H
      have A7 := Aside0.mk A70
      clear A70
      replace H := Option.bind_eq_some_iff.mp H
      obtain ⟨t109, A80, H⟩ := H
      replace H : (elenchuslaw4_CellApart.j0 k a0 ((a0 == a1) != (t108 == t109))) = some r := H
      have A8 := Aside0.mk A80
      clear A80
      have H' := Aside0.mk H
      clear H
      go_wp2_with (first | ((with_reducible refine gate_callee (f := 30) rfl ?_); refine goesL_ (some 15) rfl rfl Try.func30 (by kernel_rfl) rfl #[.int .u64 a0] rfl (by (try simp only [List.map_toArray, List.map_cons, List.map_nil]); first | done | rfl | (simp only [List.length_drop, List.length_take]; rfl)) ?_; (with_reducible refine (cell_Tag.calls a0 t106 _ A4.out).mono ?_); rintro e w' ⟨rfl, ⟨nd, rfl⟩⟩; refine ⟨_, rfl, ?_⟩) | ((with_reducible refine gate_callee (f := 30) rfl ?_); refine goesL_ (some 17) rfl rfl Try.func30 (by kernel_rfl) rfl #[.int .u64 a1] rfl (by (try simp only [List.map_toArray, List.map_cons, List.map_nil]); first | done | rfl | (simp only [List.length_drop, List.length_take]; rfl)) ?_; (with_reducible refine (cell_Tag.calls a1 t107 _ A5.out).mono ?_); rintro e w' ⟨rfl, ⟨nd, rfl⟩⟩; refine ⟨_, rfl, ?_⟩) | (go_at_call 32; (with_reducible refine (cell_Value.calls a0 t108 _ A7.out).mono ?_); rintro e w' ⟨rfl, ⟨nd, rfl⟩⟩) | (go_at_call 32; (with_reducible refine (cell_Value.calls a1 t109 _ A8.out).mono ?_); rintro e w' ⟨rfl, ⟨nd, rfl⟩⟩))
      go_meet
      case rel => exact ⟨_, (((a0 == a1) != (t108 == t109))), (by first | rfl | (simp; done) | (simp [*]; done)), H', ⟨by first | omega | exact Nat.le_refl _⟩, by repeat (first | exact Drawn0.refl _ | apply Drawn0.step)⟩
    · rw [if_neg c6] at H
      have c6b0 : (t106 == t107) = false := beq_eq_false_iff_ne.mpr c6
      have c6b1 : (t106 != t107) = true := bne_iff_ne.mpr c6
      (first | rw [c6b0] | (simp only [i64_w, i32_w]; rw [c6b0]) | skip)
      have H' := Aside0.mk H
      clear H
      go_wp2_with (first | ((with_reducible refine gate_callee (f := 30) rfl ?_); refine goesL_ (some 15) rfl rfl Try.func30 (by kernel_rfl) rfl #[.int .u64 a0] rfl (by (try simp only [List.map_toArray, List.map_cons, List.map_nil]); first | done | rfl | (simp only [List.length_drop, List.length_take]; rfl)) ?_; (with_reducible refine (cell_Tag.calls a0 t106 _ A4.out).mono ?_); rintro e w' ⟨rfl, ⟨nd, rfl⟩⟩; refine ⟨_, rfl, ?_⟩) | ((with_reducible refine gate_callee (f := 30) rfl ?_); refine goesL_ (some 17) rfl rfl Try.func30 (by kernel_rfl) rfl #[.int .u64 a1] rfl (by (try simp only [List.map_toArray, List.map_cons, List.map_nil]); first | done | rfl | (simp only [List.length_drop, List.length_take]; rfl)) ?_; (with_reducible refine (cell_Tag.calls a1 t107 _ A5.out).mono ?_); rintro e w' ⟨rfl, ⟨nd, rfl⟩⟩; refine ⟨_, rfl, ?_⟩))
      go_meet
      case rel => exact ⟨_, (((a0 == a1) != false)), (by first | rfl | (simp; done) | (simp [*]; done)), H', ⟨by first | omega | exact Nat.le_refl _⟩, by repeat (first | exact Drawn0.refl _ | apply Drawn0.step)⟩
  case rest =>
    clear HC3
    try clear p2
    try clear c3
    try clear c5
    try clear c6
    try clear c6b0
    try clear c6b1
    obtain ⟨kq, x26_2, rfl, HA, HJ2, ⟨mc2, rfl⟩⟩ := hcut
    cases kq with
    | zero => exact absurd HA.out (by simp [elenchuslaw4_CellApart.j0])
    | succ kj2 =>
      have H := HA.out
      clear HA
      simp only [elenchuslaw4_CellApart.j0] at H
      by_cases c9 : x26_2 = true
      · subst c9
        have H1 : (some false) = some r := by rw [if_pos rfl] at H; exact H
        clear H
        have H := H1
        clear H1
        obtain rfl := Option.some.inj H
        go_wp2
        go_ret
        exact ⟨by first | rfl | (simp; done) | (simp [*]; done), by repeat (first | exact Drawn0.refl _ | apply Drawn0.step)⟩
      · replace c9 := Bool.eq_false_iff.mpr c9
        subst c9
        have H1 : ((cell_Tag.f a0).bind fun t110 => ((cell_Value.f a0).bind fun t111 => ((cell_Make.f t110 t111).bind fun bt112 => ((cell_Tag.f a0).bind fun t114 => (if (bt112.2 == (decide (t114 ≤ 6))) = true then (if bt112.2 = true then (if bt112.1 = a0 then ((elenchuslaw4_awake.f).bind fun t115 => (some t115)) else (some false)) else ((elenchuslaw4_awake.f).bind fun t116 => (some t116))) else (some false)))))) = some r := by rw [if_neg (show ¬ (false = true) by decide)] at H; exact H
        clear H
        have H := H1
        clear H1
        replace H := Option.bind_eq_some_iff.mp H
        obtain ⟨t110, A100, H⟩ := H
        replace H : ((cell_Value.f a0).bind fun t111 => ((cell_Make.f t110 t111).bind fun bt112 => ((cell_Tag.f a0).bind fun t114 => (if (bt112.2 == (decide (t114 ≤ 6))) = true then (if bt112.2 = true then (if bt112.1 = a0 then ((elenchuslaw4_awake.f).bind fun t115 => (some t115)) else (some false)) else ((elenchuslaw4_awake.f).bind fun t116 => (some t116))) else (some false))))) = some r := H
        have A10 := Aside0.mk A100
        clear A100
        replace H := Option.bind_eq_some_iff.mp H
        obtain ⟨t111, A110, H⟩ := H
        replace H : ((cell_Make.f t110 t111).bind fun bt112 => ((cell_Tag.f a0).bind fun t114 => (if (bt112.2 == (decide (t114 ≤ 6))) = true then (if bt112.2 = true then (if bt112.1 = a0 then ((elenchuslaw4_awake.f).bind fun t115 => (some t115)) else (some false)) else ((elenchuslaw4_awake.f).bind fun t116 => (some t116))) else (some false)))) = some r := H
        have A11 := Aside0.mk A110
        clear A110
        replace H := Option.bind_eq_some_iff.mp H
        obtain ⟨⟨t112, t113⟩, A120, H⟩ := H
        replace H : ((cell_Tag.f a0).bind fun t114 => (if (t113 == (decide (t114 ≤ 6))) = true then (if t113 = true then (if t112 = a0 then ((elenchuslaw4_awake.f).bind fun t115 => (some t115)) else (some false)) else ((elenchuslaw4_awake.f).bind fun t116 => (some t116))) else (some false))) = some r := H
        have A12 := Aside0.mk A120
        clear A120
        replace H := Option.bind_eq_some_iff.mp H
        obtain ⟨t114, A130, H⟩ := H
        replace H : (if (t113 == (decide (t114 ≤ 6))) = true then (if t113 = true then (if t112 = a0 then ((elenchuslaw4_awake.f).bind fun t115 => (some t115)) else (some false)) else ((elenchuslaw4_awake.f).bind fun t116 => (some t116))) else (some false)) = some r := H
        have A13 := Aside0.mk A130
        clear A130
        by_cases c14 : (t113 == (decide (t114 ≤ 6))) = true
        · rw [if_pos c14] at H
          have c14b0 : (t113 == (decide (t114 ≤ 6))) = true := c14
          (try (have c14b1 : decide (t113 = (decide (t114 ≤ 6))) = true := by simpa using c14))
          (try (have c14b2 : (t113 == (decide (t114 ≤ 6))) = true := by simpa using c14))
          clear c14
          by_cases c15 : t113 = true
          · subst c15
            have H1 : (if t112 = a0 then ((elenchuslaw4_awake.f).bind fun t115 => (some t115)) else (some false)) = some r := by rw [if_pos rfl] at H; exact H
            clear H
            have H := H1
            clear H1
            by_cases c16 : t112 = a0
            · rw [if_pos c16] at H
              have c16b0 : (t112 == a0) = true := beq_iff_eq.mpr c16
              have c16b1 : (t112 != a0) = false := bne_eq_false_iff_eq.mpr c16
              clear c16
              replace H := Option.bind_eq_some_iff.mp H
              obtain ⟨t115, A170, H⟩ := H
              replace H : (some t115) = some r := H
              have A17 := Aside0.mk A170
              clear A170
              obtain rfl := Option.some.inj H
              go_wp2_with (first | ((with_reducible refine gate_callee (f := 30) rfl ?_); refine goesL_ (some 29) rfl rfl Try.func30 (by kernel_rfl) rfl #[.int .u64 a0] rfl (by (try simp only [List.map_toArray, List.map_cons, List.map_nil]); first | done | rfl | (simp only [List.length_drop, List.length_take]; rfl)) ?_; (with_reducible refine (cell_Tag.calls a0 t110 _ A10.out).mono ?_); rintro e w' ⟨rfl, ⟨nd, rfl⟩⟩; refine ⟨_, rfl, ?_⟩) | ((with_reducible refine gate_callee (f := 32) rfl ?_); refine goesL_ (some 31) rfl rfl Try.func32 (by kernel_rfl) rfl #[.int .u64 a0] rfl (by (try simp only [List.map_toArray, List.map_cons, List.map_nil]); first | done | rfl | (simp only [List.length_drop, List.length_take]; rfl)) ?_; (with_reducible refine (cell_Value.calls a0 t111 _ A11.out).mono ?_); rintro e w' ⟨rfl, ⟨nd, rfl⟩⟩; refine ⟨_, rfl, ?_⟩) | ((with_reducible refine gate_callee (f := 28) rfl ?_); refine goesL_ (some 32) rfl rfl Try.func28 (by kernel_rfl) rfl #[.int .i64 t110, .int .u64 t111] rfl (by (try simp only [List.map_toArray, List.map_cons, List.map_nil]); first | done | rfl | (simp only [List.length_drop, List.length_take]; rfl)) ?_; (with_reducible refine (cell_Make.calls t110 t111 t112 true _ A12.out).mono ?_); rintro e w' ⟨rfl, ⟨nd, rfl⟩⟩; refine ⟨_, rfl, ?_⟩) | ((with_reducible refine gate_callee (f := 30) rfl ?_); refine goesL_ (some 37) rfl rfl Try.func30 (by kernel_rfl) rfl #[.int .u64 a0] rfl (by (try simp only [List.map_toArray, List.map_cons, List.map_nil]); first | done | rfl | (simp only [List.length_drop, List.length_take]; rfl)) ?_; (with_reducible refine (cell_Tag.calls a0 t114 _ A13.out).mono ?_); rintro e w' ⟨rfl, ⟨nd, rfl⟩⟩; refine ⟨_, rfl, ?_⟩) | (go_at_call 27; (with_reducible refine (elenchuslaw4_awake.calls  t115 _ A17.out).mono ?_); rintro e w' ⟨rfl, ⟨nd, rfl⟩⟩))
              go_ret
              exact ⟨by first | rfl | (simp; done) | (simp [*]; done), by repeat (first | exact Drawn0.refl _ | apply Drawn0.step)⟩
            · rw [if_neg c16] at H
              have c16b0 : (t112 == a0) = false := beq_eq_false_iff_ne.mpr c16
              have c16b1 : (t112 != a0) = true := bne_iff_ne.mpr c16
              obtain rfl := Option.some.inj H
              go_wp2_with (first | ((with_reducible refine gate_callee (f := 30) rfl ?_); refine goesL_ (some 29) rfl rfl Try.func30 (by kernel_rfl) rfl #[.int .u64 a0] rfl (by (try simp only [List.map_toArray, List.map_cons, List.map_nil]); first | done | rfl | (simp only [List.length_drop, List.length_take]; rfl)) ?_; (with_reducible refine (cell_Tag.calls a0 t110 _ A10.out).mono ?_); rintro e w' ⟨rfl, ⟨nd, rfl⟩⟩; refine ⟨_, rfl, ?_⟩) | ((with_reducible refine gate_callee (f := 32) rfl ?_); refine goesL_ (some 31) rfl rfl Try.func32 (by kernel_rfl) rfl #[.int .u64 a0] rfl (by (try simp only [List.map_toArray, List.map_cons, List.map_nil]); first | done | rfl | (simp only [List.length_drop, List.length_take]; rfl)) ?_; (with_reducible refine (cell_Value.calls a0 t111 _ A11.out).mono ?_); rintro e w' ⟨rfl, ⟨nd, rfl⟩⟩; refine ⟨_, rfl, ?_⟩) | ((with_reducible refine gate_callee (f := 28) rfl ?_); refine goesL_ (some 32) rfl rfl Try.func28 (by kernel_rfl) rfl #[.int .i64 t110, .int .u64 t111] rfl (by (try simp only [List.map_toArray, List.map_cons, List.map_nil]); first | done | rfl | (simp only [List.length_drop, List.length_take]; rfl)) ?_; (with_reducible refine (cell_Make.calls t110 t111 t112 true _ A12.out).mono ?_); rintro e w' ⟨rfl, ⟨nd, rfl⟩⟩; refine ⟨_, rfl, ?_⟩) | ((with_reducible refine gate_callee (f := 30) rfl ?_); refine goesL_ (some 37) rfl rfl Try.func30 (by kernel_rfl) rfl #[.int .u64 a0] rfl (by (try simp only [List.map_toArray, List.map_cons, List.map_nil]); first | done | rfl | (simp only [List.length_drop, List.length_take]; rfl)) ?_; (with_reducible refine (cell_Tag.calls a0 t114 _ A13.out).mono ?_); rintro e w' ⟨rfl, ⟨nd, rfl⟩⟩; refine ⟨_, rfl, ?_⟩))
              go_ret
              exact ⟨by first | rfl | (simp; done) | (simp [*]; done), by repeat (first | exact Drawn0.refl _ | apply Drawn0.step)⟩
          · replace c15 := Bool.eq_false_iff.mpr c15
            subst c15
            have H1 : ((elenchuslaw4_awake.f).bind fun t116 => (some t116)) = some r := by rw [if_neg (show ¬ (false = true) by decide)] at H; exact H
            clear H
            have H := H1
            clear H1
            replace H := Option.bind_eq_some_iff.mp H
            obtain ⟨t116, A180, H⟩ := H
            replace H : (some t116) = some r := H
            have A18 := Aside0.mk A180
            clear A180
            obtain rfl := Option.some.inj H
            go_wp2_with (first | ((with_reducible refine gate_callee (f := 30) rfl ?_); refine goesL_ (some 29) rfl rfl Try.func30 (by kernel_rfl) rfl #[.int .u64 a0] rfl (by (try simp only [List.map_toArray, List.map_cons, List.map_nil]); first | done | rfl | (simp only [List.length_drop, List.length_take]; rfl)) ?_; (with_reducible refine (cell_Tag.calls a0 t110 _ A10.out).mono ?_); rintro e w' ⟨rfl, ⟨nd, rfl⟩⟩; refine ⟨_, rfl, ?_⟩) | ((with_reducible refine gate_callee (f := 32) rfl ?_); refine goesL_ (some 31) rfl rfl Try.func32 (by kernel_rfl) rfl #[.int .u64 a0] rfl (by (try simp only [List.map_toArray, List.map_cons, List.map_nil]); first | done | rfl | (simp only [List.length_drop, List.length_take]; rfl)) ?_; (with_reducible refine (cell_Value.calls a0 t111 _ A11.out).mono ?_); rintro e w' ⟨rfl, ⟨nd, rfl⟩⟩; refine ⟨_, rfl, ?_⟩) | ((with_reducible refine gate_callee (f := 28) rfl ?_); refine goesL_ (some 32) rfl rfl Try.func28 (by kernel_rfl) rfl #[.int .i64 t110, .int .u64 t111] rfl (by (try simp only [List.map_toArray, List.map_cons, List.map_nil]); first | done | rfl | (simp only [List.length_drop, List.length_take]; rfl)) ?_; (with_reducible refine (cell_Make.calls t110 t111 t112 false _ A12.out).mono ?_); rintro e w' ⟨rfl, ⟨nd, rfl⟩⟩; refine ⟨_, rfl, ?_⟩) | ((with_reducible refine gate_callee (f := 30) rfl ?_); refine goesL_ (some 37) rfl rfl Try.func30 (by kernel_rfl) rfl #[.int .u64 a0] rfl (by (try simp only [List.map_toArray, List.map_cons, List.map_nil]); first | done | rfl | (simp only [List.length_drop, List.length_take]; rfl)) ?_; (with_reducible refine (cell_Tag.calls a0 t114 _ A13.out).mono ?_); rintro e w' ⟨rfl, ⟨nd, rfl⟩⟩; refine ⟨_, rfl, ?_⟩) | (go_at_call 27; (with_reducible refine (elenchuslaw4_awake.calls  t116 _ A18.out).mono ?_); rintro e w' ⟨rfl, ⟨nd, rfl⟩⟩))
            go_ret
            exact ⟨by first | rfl | (simp; done) | (simp [*]; done), by repeat (first | exact Drawn0.refl _ | apply Drawn0.step)⟩
        · rw [if_neg c14] at H
          have c14b0 : (t113 == (decide (t114 ≤ 6))) = false := by simpa using c14
          (try (have c14b1 : decide (t113 = (decide (t114 ≤ 6))) = false := by simpa using c14))
          (try (have c14b2 : (t113 == (decide (t114 ≤ 6))) = false := by simpa using c14))
          (try (have c14b3 : ¬ (t113 = (decide (t114 ≤ 6))) := by simpa using c14))
          clear c14
          obtain rfl := Option.some.inj H
          go_wp2_with (first | ((with_reducible refine gate_callee (f := 30) rfl ?_); refine goesL_ (some 29) rfl rfl Try.func30 (by kernel_rfl) rfl #[.int .u64 a0] rfl (by (try simp only [List.map_toArray, List.map_cons, List.map_nil]); first | done | rfl | (simp only [List.length_drop, List.length_take]; rfl)) ?_; (with_reducible refine (cell_Tag.calls a0 t110 _ A10.out).mono ?_); rintro e w' ⟨rfl, ⟨nd, rfl⟩⟩; refine ⟨_, rfl, ?_⟩) | ((with_reducible refine gate_callee (f := 32) rfl ?_); refine goesL_ (some 31) rfl rfl Try.func32 (by kernel_rfl) rfl #[.int .u64 a0] rfl (by (try simp only [List.map_toArray, List.map_cons, List.map_nil]); first | done | rfl | (simp only [List.length_drop, List.length_take]; rfl)) ?_; (with_reducible refine (cell_Value.calls a0 t111 _ A11.out).mono ?_); rintro e w' ⟨rfl, ⟨nd, rfl⟩⟩; refine ⟨_, rfl, ?_⟩) | ((with_reducible refine gate_callee (f := 28) rfl ?_); refine goesL_ (some 32) rfl rfl Try.func28 (by kernel_rfl) rfl #[.int .i64 t110, .int .u64 t111] rfl (by (try simp only [List.map_toArray, List.map_cons, List.map_nil]); first | done | rfl | (simp only [List.length_drop, List.length_take]; rfl)) ?_; (with_reducible refine (cell_Make.calls t110 t111 t112 t113 _ A12.out).mono ?_); rintro e w' ⟨rfl, ⟨nd, rfl⟩⟩; refine ⟨_, rfl, ?_⟩) | ((with_reducible refine gate_callee (f := 30) rfl ?_); refine goesL_ (some 37) rfl rfl Try.func30 (by kernel_rfl) rfl #[.int .u64 a0] rfl (by (try simp only [List.map_toArray, List.map_cons, List.map_nil]); first | done | rfl | (simp only [List.length_drop, List.length_take]; rfl)) ?_; (with_reducible refine (cell_Tag.calls a0 t114 _ A13.out).mono ?_); rintro e w' ⟨rfl, ⟨nd, rfl⟩⟩; refine ⟨_, rfl, ?_⟩))
          go_ret
          exact ⟨by first | rfl | (simp; done) | (simp [*]; done), by repeat (first | exact Drawn0.refl _ | apply Drawn0.step)⟩

/-- THE ONE PURE STATEMENT of elenchuslaw4_CellApart: yours. -/
def elenchuslaw4_CellApart.Pure : Prop := ∀ (a0 : Int) (a1 : Int), (Lit.int .u64 a0).wf = true → (Lit.int .u64 a1).wf = true → ∃ k, elenchuslaw4_CellApart.f k a0 a1 = some true
theorem elenchuslaw4_CellApart.walk (P : elenchuslaw4_CellApart.Pure) (a0 : Int) (a1 : Int) (w : World) (w0 : (Lit.int .u64 a0).wf = true) (w1 : (Lit.int .u64 a1).wf = true) :
    Calls Try.prog 5 #[.int .u64 a0, .int .u64 a1] w fun e w' => e = .returned (.bool true) ∧ Below w.heap.size w w' := by
  obtain ⟨k, h⟩ := P a0 a1 w0 w1
  refine (elenchuslaw4_CellApart.calls k a0 a1 true w h).mono ?_
  rintro e w' ⟨rfl, hd⟩
  exact ⟨rfl, hd.below⟩

end Go.Proofs.Ytaahamgjhlnjnaa.PCellApart
