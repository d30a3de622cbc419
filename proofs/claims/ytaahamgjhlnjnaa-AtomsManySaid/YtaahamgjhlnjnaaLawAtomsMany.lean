/- The walk of the law AtomsMany: as many as may be, and more; names as long as may be, and longer. -/
import Derived.Test.YtaahamgjhlnjnaaAtomsMany
import Derived.Outline
import Derived.Deep.RegionWith
namespace Go.Proofs.Ytaahamgjhlnjnaa
open Go.RowKit
set_option linter.unusedVariables false

/-- So many bytes 0 as a string. -/
def zeros (n : Nat) : ByteArray := strOfNums (List.replicate n 0)
theorem zeros_size (n : Nat) : (zeros n).size = n := by unfold zeros; rw [strOfNums_size]; simp
theorem info_u8 : (Try.prog.info? 5).map (fun i => (i.zero, i.size, i.bytes)) = some (some (.int .u8 0), 1, 1) := by kernel_rfl
theorem makeZ (N : Nat) (c : Int) (hc : (N : Int) = c) (hN : N ≤ 1000) (W : World) : (Instr.makeSlice 41 (.int .i64 c) (.int .i64 c)).run Try.prog W = .ok (.slice (some ⟨W.heap.size, 0, none⟩) N N) (W.alloc (.cells (madeCells #[.int .u8 0] N) 5)) := by
  obtain ⟨i0, hi, hzz⟩ := Option.map_eq_some_iff.1 info_u8
  simp only [Prod.mk.injEq] at hzz
  obtain ⟨hz0, hz1, hz2⟩ := hzz
  have h := run_make (P := Try.prog) W 41 5 i0 (.int .u8 0) Try.underlying41 hi hz0 .i64 .i64 c c (by omega) (by omega) (by rw [hz2]; omega) (by omega)
  rw [hz1, ← hc, Int.toNat_natCast, Nat.mul_one] at h
  rw [← hc]
  exact h
theorem madeCells_get (N i : Nat) (h : i < N) : (madeCells #[.int .u8 0] N)[i]? = some (.int .u8 0) := by
  simp [madeCells, h, Nat.mod_one]
theorem convZ (N b : Nat) (W : World) (h : W.heap[b]? = some (.cells (madeCells #[.int .u8 0] N) 5 (0, 0))) : (convert 41 9 (.slice (some ⟨b, 0, none⟩) N N)).run Try.prog W = .ok (.string (zeros N)) W := by
  refine run_convert_bytes_arg _ 41 5 Try.underlying41 Try.underlying5 b 0 N N (List.replicate N 0) (by simp) ?_ 9 Try.underlying9
  intro i hi
  rw [cell_of_row _ _ _ _ _ _ h, Nat.zero_add, madeCells_get N i hi]
  simp [List.getD, hi]
theorem convZ1 (N : Nat) (X : World) : (convert 41 9 (.slice (some ⟨X.heap.size, 0, none⟩) N N)).run Try.prog (X.alloc (.cells (madeCells #[.int .u8 0] N) 5)) = .ok (.string (zeros N)) (X.alloc (.cells (madeCells #[.int .u8 0] N) 5)) :=
  convZ N _ _ (heap_alloc_new X _)
theorem convZ2 {N : Nat} {X W : World} {own own' : Nat → Nat} (x : Ext own own' [] (X.alloc (.cells (madeCells #[.int .u8 0] N) 5)) W) : (convert 41 9 (.slice (some ⟨X.heap.size, 0, none⟩) N N)).run Try.prog W = .ok (.string (zeros N)) W :=
  convZ N _ _ ((x.block _ (by simp) (by simp)).trans (heap_alloc_new X _))
theorem convZ3 (N : Nat) (X : World) : (convert 41 9 (.slice (some ⟨X.heap.size, 0, none⟩) N N)).run Try.prog (X.alloc (.cells (madeCells #[.int .u8 0] N) 5)).drew = .ok (.string (zeros N)) (X.alloc (.cells (madeCells #[.int .u8 0] N) 5)).drew :=
  convZ N _ _ (heap_alloc_new X _)
theorem ofDrewA {o o' : Nat → Nat} {ids : List Nat} {w w' : World} (h : Ext o o' ids w.drew w') : Ext o o' ids w w' := ⟨h.os, h.tape, h.output, h.size, h.own, h.block⟩
theorem manyN (mm : Int) (k : Nat) (h0 : 0 ≤ mm) (hk : (k : Int) = 4090 + mm) : ((manyAt k).length : Int) = if mm + 4092 < 4096 then 4092 + mm else 4096 := by
  rw [manyAt_length]; split <;> omega
set_option maxHeartbeats 6400000 in
set_option maxRecDepth 100000 in
theorem atomsMany_walk (n : Int) (wn : (Lit.int .i64 n).wf = true) (long : Int) (wl : (Lit.int .i64 long).wf = true) (w : World) :
    Calls Try.prog 6 #[.int .i64 n, .int .i64 long] w fun e w' => e = .returned (.bool true) ∧ Below w.heap.size w w' := by
  clear wn wl
  obtain ⟨m, hm, hm8⟩ := mod_nat n 8 (by decide) (by decide)
  obtain ⟨r, hr, hr5⟩ := mod_nat long 5 (by decide) (by decide)
  have hm0 : (0 : Int) ≤ m := by omega
  have hr0 : (0 : Int) ≤ r := by omega
  obtain ⟨M, hM⟩ : ∃ M, 4090 + m = M := ⟨_, rfl⟩
  obtain ⟨N, hN⟩ : ∃ N, 198 + r = N := ⟨_, rfl⟩
  have hM' : (M : Int) = 4090 + m := by omega
  have hN' : (N : Int) = 198 + r := by omega
  clear hM hN
  generalize (m : Int) = mm at *
  generalize (r : Int) = rr at *
  have HM := Lib.hid hm
  have HR := Lib.hid hr
  have HMM := Lib.hid hM'
  have HNN := Lib.hid hN'
  clear hm hr hM' hN' m r
  go_enter Try.func6, Try.ntmps6
  go_wp2_with fail
  refine (anew_any own0 1 2 _ (by decide)).mono ?_
  rintro e w1 ⟨o1, p, x1, rfl, _, _, h1⟩
  replace x1 := x1.mono (jds := [1, 2]) (by simp)
  have hm := HM.out
  go_wp2_with fail
  clear hm
  have hc3 := convert3
  go_loopw [18] (fun v wr => ∃ (k : Nat) (own : Nat → Nat), v = .int .i64 k ∧ k ≤ M ∧ Ext own0 own [1, 2] w wr ∧ TabP own 1 2 wr p (manyAt k)) (fun v _ => M - (intOf v).toNat)
  case atStart => exact ⟨0, o1, rfl, by omega, x1, by rw [← manyAt_zero]; exact h1⟩
  case round =>
    clear x1 h1
    obtain ⟨k, own, rfl, hk, x, a⟩ := hrel
    by_cases hlt : k < M
    · have hlt' : (k : Int) < 4090 + mm := by have := HMM.out; omega
      have z1 : Ext own own [1, 2] wr (wr.alloc (.cells #[.int .u8 ((k : Int) % 256), .int .u8 ((k : Int) / 256), .int .u8 120] 5)) := (Ext.refl _ _ _).alloc _
      have a1 : TabP own 1 2 (wr.alloc (.cells #[.int .u8 ((k : Int) % 256), .int .u8 ((k : Int) / 256), .int .u8 120] 5)) p (manyAt k) := a.keep ((Ext.refl own [] wr).alloc _) (by simp) (by simp)
      have hnu := anumber_any own 1 2 p (nameI k) (manyAt k) _ a1 (by decide)
      by_cases hf : k < 4094
      · have hf' : (k : Int) < 4094 := by omega
        obtain ⟨e1, e2, e3⟩ := manyAt_new k hf
        rw [e1, e2, e3] at hnu
        unfold nameI at hnu
        have HNU := Lib.hid hnu
        clear hnu e1 e2 e3 a a1
        have hk0 : (0 : Int) ≤ k := by omega
        generalize hkk : (k : Int) = kk at *
        have HKK := Lib.hid hkk
        have HLT := Lib.hid hlt
        clear hkk hk hlt hf
        go_wp2_with (go_at_call 36; refine HNU.out.mono ?_; rintro e w2 ⟨own2, x2, rfl, a2⟩)
        go_roundw
        case rel => exact ⟨k + 1, own2, by rw [← HKK.out]; go_num, HLT.out, (x.trans z1).trans x2, a2⟩
        case measure => have h1 := HKK.out; have h2 := HLT.out; simp [intOf]; omega
      · have hf' : (4094 : Int) ≤ k := by omega
        obtain ⟨e1, e2, e3⟩ := manyAt_full k (by omega) (by have := HMM.out; omega)
        rw [e1, e2, e3] at hnu
        unfold nameI at hnu
        have HNU := Lib.hid hnu
        clear hnu e1 e2 e3 a a1
        have hk0 : (0 : Int) ≤ k := by omega
        generalize hkk : (k : Int) = kk at *
        have HKK := Lib.hid hkk
        have HLT := Lib.hid hlt
        clear hkk hk hlt hf
        go_wp2_with (go_at_call 36; refine HNU.out.mono ?_; rintro e w2 ⟨own2, x2, rfl, a2⟩)
        go_roundw
        case rel => exact ⟨k + 1, own2, by rw [← HKK.out]; go_num, HLT.out, (x.trans z1).trans x2, a2⟩
        case measure => have h1 := HKK.out; have h2 := HLT.out; simp [intOf]; omega
    · obtain rfl : k = M := by omega
      have hml := manyN mm k hm0 HMM.out
      have hlt' : (4090 + mm) ≤ (k : Int) := by have := HMM.out; omega
      have hle' : (k : Int) ≤ 4090 + mm := by have := HMM.out; omega
      have hln := fun own W h => alen_any own 1 2 p (manyAt k) W h
      rw [hml] at hln
      have hnu := fun own W p h => anumber_any own 5 6 p (zeros N) names0 W h (by decide)
      have hne := long_new (zeros N) (by rw [zeros_size]; have := HNN.out; omega)
      rw [zeros_size] at hne
      rw [hne] at hnu
      have hmk := fun c h W => makeZ N c h (by have := HNN.out; omega) W
      replace hmk := hmk _ HNN.out
      have hcz := fun X => convZ1 N X
      have hcz3 := fun X => convZ3 N X
      generalize numN names0 (zeros N) = n0 at *
      have hki : (0 : Int) ≤ k := by omega
      generalize (k : Int) = kk at *
      have hr := HR.out
      obtain ⟨E0, hE, hE2⟩ : ∃ E0 : Int, (if N ≤ 200 then (0 : Int) else 3) = E0 ∧ ((rr ≤ 2 ∧ E0 = 0) ∨ (3 ≤ rr ∧ E0 = 3)) := by
        have := HNN.out
        by_cases h : N ≤ 200
        · exact ⟨0, by rw [if_pos h], Or.inl ⟨by omega, rfl⟩⟩
        · exact ⟨3, by rw [if_neg h], Or.inr ⟨by omega, rfl⟩⟩
      obtain ⟨LL, hL, hL2⟩ : ∃ LL : Int, (if mm + 4092 < 4096 then 4092 + mm else 4096) = LL ∧ ((mm ≤ 4 ∧ LL = 4092 + mm) ∨ (5 ≤ mm ∧ LL = 4096)) := by
        by_cases h : mm + 4092 < 4096
        · exact ⟨_, rfl, Or.inl ⟨by omega, by rw [if_pos h]⟩⟩
        · by_cases h4 : mm = 4
          · exact ⟨_, rfl, Or.inl ⟨by omega, by rw [if_neg h, h4]; rfl⟩⟩
          · exact ⟨_, rfl, Or.inr ⟨by omega, by rw [if_neg h]⟩⟩
      rw [hE] at hnu
      rw [hL] at hln
      have HLN := Lib.hid hln
      have HNU := Lib.hid hnu
      have HE := Lib.hid hE2
      have HL := Lib.hid hL2
      clear hln hnu hml hne hlt hk hE hL hE2 hL2
      go_wp2_with fail
      have hq2 : IntKind.i64.wrap (198 + rr) = 198 + rr := by rw [IntKind.wrap_i64]; omega
      have hq1 : IntKind.i64.wrap ((IntKind.u64.wrap long).tmod 5) = rr := by have h := HR.out; unfold wrap64 at h; rw [IntKind.wrap_i64]; exact h
      clear hr
      go_region_with (first | (go_at_call 35; refine (anew_any own 5 6 _ (by decide)).mono ?_; rintro e w2 ⟨own2, p2, x2, rfl, _, _, h2⟩; (try (have hcv : (convert 41 9 (.slice (some ⟨wr.heap.size, 0, none⟩) N N)).run Try.prog w2 = .ok (.string (zeros N)) w2 := convZ2 (N := N) (ofDrewA x2)))) | (go_at_call 36; refine (HNU.out own2 _ p2 h2).mono ?_; rintro e w3 ⟨own3, x3, rfl, h3⟩) | (go_at_call 36; refine (HNU.out own2 _ p2 (h2.keep ((Ext.refl own2 [] w2).alloc _) (by simp) (by simp))).mono ?_; rintro e w3 ⟨own3, x3, rfl, h3⟩))
      all_goals
        have hx : Ext own own3 [5, 6] wr w3 := by
          first
            | exact (((ofDrewA x2).mono (by simp)).alloc _).trans x3
            | exact (((Ext.refl own [5, 6] wr).alloc _).trans ((ofDrewA x2).mono (by simp))).trans x3
        have a3 := a.keep hx (by simp) (by simp)
        have y3 := (x.mono (jds := [1, 2, 5, 6]) (by simp)).trans (hx.mono (by simp))
        have hl3 := HLN.out own3 w3 a3
        have HL3 := Lib.hid hl3
        have hr := HR.out
        clear hq1 hq2 hmk hcz hcz3 hc3 HNU HLN hx x2 x3 h2 h3 hl3 a x
        rcases HE.out with ⟨g1, rfl⟩ | ⟨g1, rfl⟩
        · rcases HL.out with ⟨g2, rfl⟩ | ⟨g2, rfl⟩
          · go_wp2_with (first | (go_at_call 37; refine HL3.out.mono ?_; rintro e w' ⟨rfl, n1, rfl⟩) | (go_at_call 38; refine (awake2_any _).mono ?_; rintro e w' ⟨rfl, hb⟩))
            go_ret
            exact ⟨rfl, (y3.belowStep (below_ofDrew hb)).done (by decide)⟩
          · go_wp2_with (first | (go_at_call 37; refine HL3.out.mono ?_; rintro e w' ⟨rfl, n1, rfl⟩) | (go_at_call 38; refine (awake2_any _).mono ?_; rintro e w' ⟨rfl, hb⟩))
            go_ret
            exact ⟨rfl, (y3.belowStep (below_ofDrew hb)).done (by decide)⟩
        · rcases HL.out with ⟨g2, rfl⟩ | ⟨g2, rfl⟩
          · go_wp2_with (first | (go_at_call 37; refine HL3.out.mono ?_; rintro e w' ⟨rfl, n1, rfl⟩) | (go_at_call 38; refine (awake2_any _).mono ?_; rintro e w' ⟨rfl, hb⟩))
            go_ret
            exact ⟨by show Ending.returned (.bool (!decide (198 + rr ≤ 200))) = _; rw [decide_eq_false (by omega)]; rfl, (y3.belowStep (below_ofDrew hb)).done (by decide)⟩
          · go_wp2_with (first | (go_at_call 37; refine HL3.out.mono ?_; rintro e w' ⟨rfl, n1, rfl⟩) | (go_at_call 38; refine (awake2_any _).mono ?_; rintro e w' ⟨rfl, hb⟩))
            go_ret
            exact ⟨by show Ending.returned (.bool (!decide (198 + rr ≤ 200))) = _; rw [decide_eq_false (by omega)]; rfl, (y3.belowStep (below_ofDrew hb)).done (by decide)⟩

end Go.Proofs.Ytaahamgjhlnjnaa
