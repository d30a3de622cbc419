/- The walk of the law HeapApart: two heaps go on by themselves; the same calls make the same cells. -/
import Derived.Test.YtaahamgjhlnjnaaPlay
namespace Go.Proofs.Ytaahamgjhlnjnaa
open Go.RowKit
set_option linter.unusedVariables false

theorem pushL_nonneg {most c : Int} {l : List Int} (h : ∀ x ∈ l, 0 ≤ x) (hc : 0 ≤ c) : ∀ x ∈ pushL most l c, 0 ≤ x := by
  unfold pushL
  split
  · intro x hx
    rcases List.mem_append.1 hx with hx | hx
    · exact h x hx
    · simp at hx; omega
  · exact h
theorem setL_nonneg {i c : Int} {l : List Int} (h : ∀ x ∈ l, 0 ≤ x) (hc : 0 ≤ c) : ∀ x ∈ setL l i c, 0 ≤ x := by
  unfold setL
  split
  · intro x hx
    rcases List.mem_or_eq_of_mem_set hx with hx | rfl
    · exact h x hx
    · exact hc
  · exact h
theorem cutL_nonneg {m : Int} {l : List Int} (h : ∀ x ∈ l, 0 ≤ x) : ∀ x ∈ cutL l m, 0 ≤ x := by
  unfold cutL
  split
  · exact fun x hx => h x (List.mem_of_mem_take hx)
  · exact h
theorem playL_nonneg {most : Int} : ∀ (xs : List GCall) (l : List Int), (∀ x ∈ l, 0 ≤ x) → (∀ x ∈ xs, 0 ≤ x.c) → ∀ x ∈ playL most l xs, 0 ≤ x
  | [], l, h, _ => h
  | y :: xs, l, h, hx => by
    refine playL_nonneg xs (stepL most l y) ?_ (fun x hm => hx x (List.mem_cons_of_mem _ hm))
    have hy := hx y List.mem_cons_self
    unfold stepL
    split
    · exact pushL_nonneg h hy
    split
    · exact pushL_nonneg h (by omega)
    split
    · exact setL_nonneg h hy
    split
    · exact cutL_nonneg h
    · exact h

set_option maxHeartbeats 3200000 in
set_option maxRecDepth 100000 in
theorem heapApart_walk (A : Option Addr) (len cap : Nat) (xs : List GCall) {w : World} (hc : Came RCall 3 w A len cap xs) (A' : Option Addr) (len' cap' : Nat) (ys : List GCall) (hd : Came RCall 3 w A' len' cap' ys) (_w : World) :
    Calls Try.prog 21 #[.slice A len cap, .slice A' len' cap'] w fun e w' => e = .returned (.bool true) ∧ Below w.heap.size w w' := by
  go_enter Try.func21, Try.ntmps21
  go_wp2_with fail
  refine (new_any own0 1 60 _).mono ?_
  rintro e w1 ⟨o1, x1, rfl, hp1, a1⟩
  generalize w.heap.size = pa at *
  go_wp2_with fail
  refine (new_any o1 2 60 _).mono ?_
  rintro e w2 ⟨o2, x2, rfl, hp2, b2⟩
  generalize w1.heap.size = pb at *
  go_wp2_with fail
  refine (new_any o2 3 60 _).mono ?_
  rintro e w3 ⟨o3, x3, rfl, hp3, c3⟩
  generalize w2.heap.size = pc at *
  have a3 := (a1.keep x2 (by decide)).keep x3 (by decide)
  have b3 := b2.keep x3 (by decide)
  have x4 := ((x1.trans x2).trans x3).mono (jds := [1, 2, 3]) (by simp)
  clear x1 x2 x3 a1 b2
  go_wp2_with fail
  refine (play_any o3 1 pa 60 [] w3 a3 (by decide) A len cap xs w hc (x4.done (by decide)) (fun b hb => x4.own b hb)).mono ?_
  rintro e w4 ⟨o4, y4, rfl, a4⟩
  have b4 := b3.keep y4 (by decide)
  have c4 := c3.keep y4 (by decide)
  have x5 := x4.trans (y4.mono (jds := [1, 2, 3]) (by simp))
  clear x4 y4 a3 b3 c3
  go_wp2_with fail
  refine (play_any o4 3 pc 60 [] w4 c4 (by decide) A' len' cap' ys w hd (x5.done (by decide)) (fun b hb => x5.own b hb)).mono ?_
  rintro e w5 ⟨o5, y5, rfl, -⟩
  have a5 := a4.keep y5 (by decide)
  have b5 := b4.keep y5 (by decide)
  have x6 := x5.trans (y5.mono (jds := [1, 2, 3]) (by simp))
  clear x5 y5 a4 b4 c4
  go_wp2_with fail
  refine (play_any o5 2 pb 60 [] w5 b5 (by decide) A len cap xs w hc (x6.done (by decide)) (fun b hb => x6.own b hb)).mono ?_
  rintro e w6 ⟨o6, y6, rfl, b6⟩
  have a6 := a5.keep y6 (by decide)
  have x7 := x6.trans (y6.mono (jds := [1, 2, 3]) (by simp))
  clear x6 y6 a5 b5
  have hnn : ∀ x ∈ playL 60 [] (xs.take 60), 0 ≤ x := playL_nonneg _ _ (by simp) (fun x hx => (hc.call_range x (List.mem_of_mem_take hx)).1)
  generalize playL 60 [] (xs.take 60) = L at *
  obtain ⟨n, hn⟩ : ∃ n, L.length = n := ⟨_, rfl⟩
  have hn60 := a6.len
  rw [hn] at hn60
  have la := fun a => len_any o6 1 pa 60 L (w6.drewN a) (a6.dr a)
  have lb := fun a => len_any o6 2 pb 60 L (w6.drewN a) (b6.dr a)
  have ga := fun (j a : Nat) (hj : j < n) => get_in o6 1 pa 60 j L (w6.drewN a) (a6.dr a) (by omega) (by omega)
  have gb := fun (j a : Nat) (hj : j < n) => get_in o6 2 pb 60 j L (w6.drewN a) (b6.dr a) (by omega) (by omega)
  have da := fun (j a : Nat) => deref_any o6 1 pa 60 (L.getD j 0) L (w6.drewN a) (a6.dr a) (getD_nonneg hnn j) hnn
  have db := fun (j a : Nat) => deref_any o6 2 pb 60 (L.getD j 0) L (w6.drewN a) (b6.dr a) (getD_nonneg hnn j) hnn
  simp only [Int.toNat_natCast] at ga gb
  rw [hn] at la lb
  have LA := Lib.hid la
  have LB := Lib.hid lb
  have GA := Lib.hid ga
  have GB := Lib.hid gb
  have DA := Lib.hid da
  have DB := Lib.hid db
  clear la lb ga gb da db hn hnn
  go_wp2_with fail
  refine (LA.out 0).mono ?_
  rintro e w' ⟨rfl, n1, rfl⟩
  go_wp2_with fail
  refine (LB.out _).mono ?_
  rintro e w' ⟨rfl, n2, rfl⟩
  go_wp2_with fail
  refine (LA.out _).mono ?_
  rintro e w' ⟨rfl, n3, rfl⟩
  go_wp2_with fail
  go_loopw [36] (fun v wr => ∃ (j a : Nat), v = .int .i64 j ∧ j ≤ n ∧ wr = w6.drewN a) (fun v _ => n - (intOf v).toNat)
  case atStart => exact ⟨0, _, rfl, by omega, rfl⟩
  case round =>
    obtain ⟨j, a, rfl, hj, rfl⟩ := hrel
    by_cases hlt : j < n
    · have G1 := GA.out j
      have G2 := GB.out j
      have D1 := DA.out j
      have D2 := DB.out j
      generalize L.getD j 0 = y at *
      generalize deref L y = z at *
      have G1' := Lib.hid G1
      have G2' := Lib.hid G2
      have D1' := Lib.hid D1
      have D2' := Lib.hid D2
      clear G1 G2 D1 D2
      go_wp2_with fail
      refine (G1'.out _ hlt).mono ?_
      rintro e w' ⟨rfl, m1, rfl⟩
      go_wp2_with fail
      refine (G2'.out _ hlt).mono ?_
      rintro e w' ⟨rfl, m2, rfl⟩
      go_wp2_with fail
      refine (D1'.out _).mono ?_
      rintro e w' ⟨rfl, m3, rfl⟩
      go_wp2_with fail
      refine (D2'.out _).mono ?_
      rintro e w' ⟨rfl, m4, rfl⟩
      go_wp2_with fail
      go_roundw
      case rel => exact ⟨j + 1, _, by go_num, by omega, rfl⟩
      case measure => simp [intOf]; omega
    · go_wp2_with (go_at_call 51; refine (awake5_any _).mono ?_; rintro e w' ⟨rfl, hb⟩)
      go_ret
      exact ⟨rfl, (x7.belowStep (below_ofDrew hb)).done (by decide)⟩

end Go.Proofs.Ytaahamgjhlnjnaa
