/- The walk of the law UnifyOccurs: a variable is made one with a term just if it does not stand in it, or is it. -/
import Derived.Test.YtlmcfclonncgbaaPk11
import Derived.Test.YtlmcfclonncgbaaLaidO
import Derived.Test.YtlmcfclonncgbaaVariant
import Derived.Test.YtlmcfclonncgbaaPk4
namespace Go.Proofs.Ytlmcfclonncgbaa
open Go.RowKit
set_option linter.unusedVariables false
set_option linter.unusedSimpArgs false

mutual
theorem fine_occ {n : Int} : ∀ t : CT, fine t → occ n t → 0 ≤ n
  | .var m, h, ho => by have ho : n = m := ho; rw [ho]; exact h
  | .atom _, _, ho => ho.elim
  | .int _, _, ho => ho.elim
  | .cpx _ _, _, ho => ho.elim
  | .comp _ args, h, ho => fines_occ args h.2.2.2 ho
theorem fines_occ {n : Int} : ∀ l : List CT, fines l → occs n l → 0 ≤ n
  | [], _, ho => ho.elim
  | t :: ts, h, ho => ho.elim (fine_occ t h.1) (fines_occ ts h.2)
end
theorem may_var {n : Int} (h : 0 ≤ n) : mayE (.mk 1 ByteArray.empty n 0 0 []) = 0 := mayE_zero.2 ⟨.leaf (by decide) (by decide), h, (by decide : (1 : Nat) ≤ 500), (by decide : (1 : Nat) ≤ 2000)⟩
theorem getD_i {l : List Int} {j : Nat} (h : j < l.length) : l[j]? = some (l.getD j 0) := by simp [List.getD, List.getElem?_eq_getElem h]
set_option maxRecDepth 100000 in
set_option maxHeartbeats 8000000 in
theorem unifyOccurs_walk (v0 : Value) (t : Tm) {w : World} (ht : ∃ sl, v0 = valT t sl ∧ TmS own0 w t sl) (at_ : Int) (wat : (Lit.int .i64 at_).wf = true) (_w : World) :
    Calls Try.prog 21 #[v0, .int .i64 at_] w fun e w' => e = .returned (.bool true) ∧ Below w.heap.size w w' := by
  obtain ⟨st, rfl, hTt⟩ := ht
  obtain ⟨At, lt, ct, rfl, _⟩ := hTt.args
  have ett : valT t (.slice At lt ct) = .agg #[.int .i64 t.kind, .string t.name, .int .i64 t.int, .int .u64 t.re, .int .u64 t.im, .slice At lt ct] := rfl
  rw [ett]
  obtain ⟨w2, hw2⟩ : ∃ W, w.alloc (.cells #[.int .i64 t.kind, .string t.name, .int .i64 t.int, .int .u64 t.re, .int .u64 t.im, .slice At lt ct] 25) = W := ⟨_, rfl⟩
  obtain ⟨own2, X2, kT2, xb2⟩ := boxU (Ext.refl own0 [1, 2, 3, 4, 5, 6, 7, 8, 9, 10, 11, 12, 13, 14, 15, 16] w) [.int .i64 t.kind, .string t.name, .int .i64 t.int, .int .u64 t.re, .int .u64 t.im, .slice At lt ct] 25 0 w2 hw2
  have hTt2 := TmS.keep xb2 (by decide) _ _ hTt
  clear xb2 hTt
  have d0T2 := kT2.cell 0 rfl
  have d1T2 := kT2.cell 1 rfl
  have d2T2 := kT2.cell 2 rfl
  have d3T2 := kT2.cell 3 rfl
  have d4T2 := kT2.cell 4 rfl
  have d5T2 := kT2.cell 5 rfl
  by_cases hmt : mayE t = 0
  · have hmt' : (mayE t != 0) = false := by simpa using hmt
    have HMT := Lib.hid hmt
    by_cases hnt : nodesN t ≤ 200
    · have hnt' : (nodesN t : Int) ≤ 200 := by omega
      have HNT := Lib.hid (show nodes (cl t) ≤ 200 by have := nodesN_ok hmt; omega)
      have HNV := Lib.hid (show nvF t ≤ 1000000 by have := nvF_nodes t (mayE_zero.1 hmt).1; have := HNT.out; omega)
      clear hmt hnt
      obtain ⟨VL, hVL⟩ : ∃ VL, varsF t [] = VL := ⟨_, rfl⟩
      have hmet := varsF_met t (mayE_zero.1 HMT.out).1 []
      have hvmem : ∀ n, n ∈ VL ↔ occ n (cl t) := fun n => by
        rw [← hVL, hmet]
        constructor
        · intro h; exact (metT_mem _ _ _ h).resolve_left (by simp)
        · exact fun h => metT_occ _ _ _ h
      have hVlen : VL.length ≤ 200 := by
        have := metT_len (cl t) []
        rw [← hmet, hVL] at this
        simp at this
        have := HNT.out
        omega
      have HVM := Lib.hid (And.intro hvmem hVlen)
      have HVL := Lib.hid hVL
      clear hvmem hVL hmet
      go_enter Try.func21, Try.ntmps21
      go_wp2_with (first
        | (go_at_call 32; have hc := rvars_any 16 (by decide) t _ own4 _ hTt4 HNV.out HMT.out; rw [ett, HVL.out] at hc; refine hc.mono ?_; rintro e5 w5 ⟨own5, x5, v5, rfl, hr5⟩; obtain ⟨A5, c5, rfl, hc5⟩ := hr5.form; have X5 := X4.trans (x5.mono (by decide)); have kT5 := kT4.keep x5 (by decide); have hTt5 := TmS.keep x5 (by decide) _ _ hTt4; have d0T5 := kT5.cell 0 rfl; have d1T5 := kT5.cell 1 rfl; have d2T5 := kT5.cell 2 rfl; have d3T5 := kT5.cell 3 rfl; have d4T5 := kT5.cell 4 rfl; have d5T5 := kT5.cell 5 rfl)
        | (go_at_call 53; have hc := rnodes_any t _ own3 _ hTt3; rw [ett] at hc; refine hc.mono ?_; rintro e4 w4 ⟨own4, x4, rfl⟩; have X4 := X3.trans (x4.mono (by decide)); have kT4 := kT3.keep x4 (by decide); have hTt4 := TmS.keep x4 (by decide) _ _ hTt3; have d0T4 := kT4.cell 0 rfl; have d1T4 := kT4.cell 1 rfl; have d2T4 := kT4.cell 2 rfl; have d3T4 := kT4.cell 3 rfl; have d4T4 := kT4.cell 4 rfl; have d5T4 := kT4.cell 5 rfl)
        | (go_at_call 24; have hc := rmay_any t _ own2 _ hTt2; rw [ett] at hc; refine hc.mono ?_; rintro e3 w3 ⟨own3, x3, rfl⟩; have X3 := X2.trans (x3.mono (by decide)); have kT3 := kT2.keep x3 (by decide); have hTt3 := TmS.keep x3 (by decide) _ _ hTt2; have d0T3 := kT3.cell 0 rfl; have d1T3 := kT3.cell 1 rfl; have d2T3 := kT3.cell 2 rfl; have d3T3 := kT3.cell 3 rfl; have d4T3 := kT3.cell 4 rfl; have d5T3 := kT3.cell 5 rfl))
      have HONE := Lib.hid True.intro
      have H5 := Lib.hid (And.intro X5 (And.intro kT5 (And.intro hTt5 hr5)))
      clear X2 X3 X4 hTt2 hTt3 hTt4 x3 x4 x5 kT2 kT3 kT4
      go_loopw [35] (fun u wr => ∃ (j : Nat), u = .int .i64 j ∧ j ≤ VL.length ∧ wr = w5 ∧ ∀ i, i < j → VL.getD i 0 < 1125899906842624) (fun u _ => VL.length - (intOf u).toNat)
      case atStart => exact ⟨0, rfl, Nat.zero_le _, rfl, fun i hi => absurd hi (Nat.not_lt_zero i)⟩
      case round =>
        obtain ⟨j, rfl, hj, rfl, hno⟩ := hrel
        by_cases hlt : j < VL.length
        · obtain ⟨gs, cp2, he, _⟩ := H5.out.2.2.2.form_pos (by omega)
          simp only [Value.slice.injEq] at he
          obtain ⟨rfl, _, rfl⟩ := he
          obtain ⟨y, hy⟩ : ∃ y, VL.getD j 0 = y := ⟨_, rfl⟩
          have hcy := H5.out.2.2.2.cell j (u := .int .i64 y) (by rw [List.getElem?_map, getD_i hlt, hy]; rfl)
          have HNO := Lib.hid (And.intro hno hy)
          clear hno hy
          by_cases hbig : 1125899906842624 ≤ y
          · go_wp2_with (go_at_call 63; refine (awake8_any _).mono ?_; rintro e30 w30 ⟨rfl, hb30⟩)
            go_ret
            exact ⟨rfl, (H5.out.1.belowStep hb30).below (fun _ _ => rfl) (by decide)⟩
          · have hbig' : y < 1125899906842624 := by omega
            have HBG := Lib.hid hbig'
            clear hbig
            go_wp2_with fail
            go_roundw
            case measure => simp [intOf]; omega
            refine ⟨j + 1, by go_num, by omega, (by first | rfl | trivial), fun i hi => ?_⟩
            by_cases hij : i < j
            · exact HNO.out.1 i hij
            · obtain rfl : i = j := by omega
              rw [HNO.out.2]; exact HBG.out
        · obtain rfl : j = VL.length := by omega
          have hsm : ∀ n, occ n (cl t) → 0 ≤ n ∧ n < 1125899906842624 := fun n hn => by
            refine ⟨fine_occ _ (mayE_zero.1 HMT.out).2.1 hn, ?_⟩
            obtain ⟨i, hi, hin⟩ := List.getElem_of_mem ((HVM.out.1 n).2 hn)
            have := hno i hi
            simpa [List.getD, List.getElem?_eq_getElem hi, hin] using this
          have X5 := H5.out.1
          have kT5 := H5.out.2.1
          have hTt5 := H5.out.2.2.1
          have HSM := Lib.hid hsm
          clear hno hsm hlt
          have hmv : mayE (.mk 1 ByteArray.empty 1125899906842624 0 0 []) = 0 := may_var (by decide)
          have hnin : ¬ occ 1125899906842624 (cl t) := fun h => by have := (HSM.out _ h).2; omega
          by_cases hv0 : VL.length = 0
          · have hnil : VL = [] := List.eq_nil_of_length_eq_zero hv0
            subst hnil
            simp only [List.length_nil] at *
            obtain ⟨s1, s2, c1, c2, WW, ρ, hR⟩ := laidR (s := .mk 1 ByteArray.empty 1125899906842624 0 0 []) (t := t) hmv HMT.out trivial (tms_ranged t _ hTt5 (mayE_zero.1 HMT.out).1) (by have := HNT.out; show 1 + _ ≤ 4000; omega) (by have := HNT.out; show 3 * 1 + _ + 2 ≤ 20000; omega)
            obtain ⟨ok, L1, T1, hO⟩ := hR.occO (n := 1125899906842624) rfl hmv HMT.out false (by simpa using hnin)
            obtain ⟨fo, ho1⟩ := hO.occ
            obtain ⟨fu, ho2⟩ := hO.uni
            obtain ⟨ng, Pg, hog⟩ := hO.got
            obtain ⟨CU, hCU⟩ : ∃ C, canon (cl t) = C := ⟨_, rfl⟩
            have hvt := variant_canon HMT.out
            have hmu : mayE (un CU) = 0 := by rw [← hCU]; exact mayE_un (good_canon (mayE_zero.1 HMT.out).2)
            unfold variantB at hvt
            simp only [Bool.and_eq_true] at hvt
            have hv2 : likeB (un (canon (cl (un CU)))) (un (canon (cl t))) = true := by rw [← hCU]; exact hvt.2
            rw [hCU] at hog
            have HLD := Lib.hid (And.intro hR.p1 (And.intro hR.p2 hR.vl))
            have HL := Lib.hid (And.intro hR.u1 (And.intro hR.u2 hR.bnd.l))
            have HRV := Lib.hid (show Rng 1 1125899906842624 0 0 ByteArray.empty from ⟨by decide, by omega, by decide, by decide, by decide⟩)
            have HV := Lib.hid (And.intro hv2 hmu)
            have hbn := hR.bnd.names
            have hok := hO.okv
            have hu6 := hO.u64
            have hfw := hO.few
            subst hok
            simp only [Bool.not_false, Bool.true_or, if_true] at hu6 hfw hog ho2
            have HO := Lib.hid (And.intro ho1 (And.intro ho2 (And.intro hu6 (And.intro hfw (And.intro hbn hog)))))
            clear hR hO ho1 ho2 hu6 hfw hog hbn hvt hv2 hmu hCU hmv
            clear hnin hv0 HVM HVL HSM hj
            go_wp2_with (first
              | (go_at_call 63; refine (awake8_any _).mono ?_; rintro e30 w30 ⟨rfl, hb30⟩)
              | (go_at_call 43; have hc := variant_any (un CU) (.slice AU lU cU) t (.slice At lt ct) own12 _ hU12 hTt12 HV.out.2 HMT.out; rw [show valT (un CU) (.slice AU lU cU) = .agg #[.int .i64 (un CU).kind, .string (un CU).name, .int .i64 (un CU).int, .int .u64 (un CU).re, .int .u64 (un CU).im, .slice AU lU cU] from rfl, ett, HV.out.1] at hc; refine hc.mono ?_; rintro e13 w13 ⟨own13, x13, rfl⟩; have X13 := X12.trans (x13.mono (by decide)); have kT13 := kT12.keep x13 (by decide); have hTt13 := TmS.keep x13 (by decide) _ _ hTt12; have d0T13 := kT13.cell 0 rfl; have d1T13 := kT13.cell 1 rfl; have d2T13 := kT13.cell 2 rfl; have d3T13 := kT13.cell 3 rfl; have d4T13 := kT13.cell 4 rfl; have d5T13 := kT13.cell 5 rfl)
              | (go_at_call 42; have hc := sget_new own10 1 2 3 6 (by constructor <;> decide) w10 p pt 20000 c2 L1 s2.L h10 t10 HL.out.2.1.1 HL.out.2.1.2 HO.out.2.2.1 HO.out.2.2.2.1 HO.out.2.2.2.2.1; rw [HO.out.2.2.2.2.2] at hc; refine Calls.mono hc ?_; rintro e11 w11 ⟨own11, x11, hE⟩; unfold GotEnd at hE; rw [if_pos rfl] at hE; obtain ⟨AU, lU, cU, hee, hU11⟩ := hE; obtain rfl : e11 = .returned (.tuple #[.agg #[.int .i64 (un CU).kind, .string (un CU).name, .int .i64 (un CU).int, .int .u64 (un CU).re, .int .u64 (un CU).im, .slice AU lU cU], .int .i64 0]) := hee; have X11 := X10.trans (x11.mono (by decide)); have kT11 := kT10.keep x11 (by decide); have hTt11 := TmS.keep x11 (by decide) _ _ hTt10; have d0T11 := kT11.cell 0 rfl; have d1T11 := kT11.cell 1 rfl; have d2T11 := kT11.cell 2 rfl; have d3T11 := kT11.cell 3 rfl; have d4T11 := kT11.cell 4 rfl; have d5T11 := kT11.cell 5 rfl; obtain ⟨w12, hW12⟩ : ∃ W, w11.alloc (.cells #[.int .i64 (un CU).kind, .string (un CU).name, .int .i64 (un CU).int, .int .u64 (un CU).re, .int .u64 (un CU).im, .slice AU lU cU] 25) = W := ⟨_, rfl⟩; obtain ⟨own12, y12, kU12, x12⟩ := boxU (Ext.refl own11 [] w11) [.int .i64 (un CU).kind, .string (un CU).name, .int .i64 (un CU).int, .int .u64 (un CU).re, .int .u64 (un CU).im, .slice AU lU cU] 25 0 w12 hW12; have X12 := X11.trans (x12.mono (by decide)); have kT12 := kT11.keep x12 (by decide); have hTt12 := TmS.keep x12 (by decide) _ _ hTt11; have d0T12 := kT12.cell 0 rfl; have d1T12 := kT12.cell 1 rfl; have d2T12 := kT12.cell 2 rfl; have d3T12 := kT12.cell 3 rfl; have d4T12 := kT12.cell 4 rfl; have d5T12 := kT12.cell 5 rfl; have hU12 := TmS.keep x12 (by decide) _ _ hU11; have du0_12 := kU12.cell 0 rfl; have du1_12 := kU12.cell 1 rfl; have du2_12 := kU12.cell 2 rfl; have du3_12 := kU12.cell 3 rfl; have du4_12 := kU12.cell 4 rfl; have du5_12 := kU12.cell 5 rfl)
              | (go_at_call 65; have hun := uunify_any own9 1 5 (by decide) w9 p pr 20000 c1 c2 s2.l [] h9 k9 HL.out.1 HL.out.2.1 HL.out.2.2 (by decide); rw [HO.out.2.1] at hun; simp only [Bool.false_eq_true, if_false, if_true] at hun; refine Calls.mono hun ?_; rintro e10 w10 ⟨own10, x10, (rfl : e10 = .returned (.tuple #[.bool true, .int .i64 0])), h10, k10⟩; have t10 := t9.keep x10 (by decide) (by decide); have X10 := X9.trans (x10.mono (by decide)); have kT10 := kT9.keep x10 (by decide); have hTt10 := TmS.keep x10 (by decide) _ _ hTt9; have d0T10 := kT10.cell 0 rfl; have d1T10 := kT10.cell 1 rfl; have d2T10 := kT10.cell 2 rfl; have d3T10 := kT10.cell 3 rfl; have d4T10 := kT10.cell 4 rfl; have d5T10 := kT10.cell 5 rfl)
              | (go_at_call 80; have ho := uoccurs_any own8 1 w8 p 20000 c1 c2 s2.l h8 HL.out.1 HL.out.2.1 HL.out.2.2; rw [HO.out.1] at ho; refine Calls.mono ho ?_; rintro e9 w9 ⟨own9, x9, (rfl : e9 = .returned (.tuple #[.bool false, .int .i64 0]))⟩; have X9 := X8.trans (x9.mono (by decide)); have kT9 := kT8.keep x9 (by decide); have hTt9 := TmS.keep x9 (by decide) _ _ hTt8; have h9 := h8.keep x9 (by decide); have t9 := t8.keep x9 (by decide) (by decide); have k9 := k8.keep x9 (by decide); have d0T9 := kT9.cell 0 rfl; have d1T9 := kT9.cell 1 rfl; have d2T9 := kT9.cell 2 rfl; have d3T9 := kT9.cell 3 rfl; have d4T9 := kT9.cell 4 rfl; have d5T9 := kT9.cell 5 rfl)
              | (go_at_call 68; obtain ⟨w7, hW7⟩ : ∃ W, w6.alloc (.cells #[.int .i64 1, .string ByteArray.empty, .int .i64 1125899906842624, .int .u64 0, .int .u64 0, .slice none 0 0] 25) = W := ⟨_, rfl⟩; obtain ⟨own7, y7, kV7, x7⟩ := boxU (Ext.refl own6 [] w6) [.int .i64 1, .string ByteArray.empty, .int .i64 1125899906842624, .int .u64 0, .int .u64 0, .slice none 0 0] 25 10 w7 hW7; have X7 := X6.trans (x7.mono (by decide)); have kT7 := kT6.keep x7 (by decide); have hTt7 := TmS.keep x7 (by decide) _ _ hTt6; have d0T7 := kT7.cell 0 rfl; have d1T7 := kT7.cell 1 rfl; have d2T7 := kT7.cell 2 rfl; have d3T7 := kT7.cell 3 rfl; have d4T7 := kT7.cell 4 rfl; have d5T7 := kT7.cell 5 rfl; rw [hW7]; have hc := laid_any 1 2 3 4 5 (by decide) own7 w7 (.mk 1 ByteArray.empty 1125899906842624 0 0 []) t (.slice none 0 0) _ (leaf_term HRV.out) hTt7 s1 s2 c1 c2 HLD.out.1 HLD.out.2.1 HLD.out.2.2; rw [show valT (.mk 1 ByteArray.empty 1125899906842624 0 0 []) (.slice none 0 0) = .agg #[.int .i64 1, .string ByteArray.empty, .int .i64 1125899906842624, .int .u64 0, .int .u64 0, .slice none 0 0] from rfl, ett] at hc; refine Calls.mono hc ?_; rintro e8 w8 ⟨own8, x8, p, pt, pr, rfl, h8, t8, k8⟩; have X8 := X7.trans (x8.mono (by decide)); have kT8 := kT7.keep x8 (by decide); have hTt8 := TmS.keep x8 (by decide) _ _ hTt7; have d0T8 := kT8.cell 0 rfl; have d1T8 := kT8.cell 1 rfl; have d2T8 := kT8.cell 2 rfl; have d3T8 := kT8.cell 3 rfl; have d4T8 := kT8.cell 4 rfl; have d5T8 := kT8.cell 5 rfl)
              | (go_at_call 35; have hq := HONE; clear HONE hq; refine (r1var_any own5 1125899906842624 _).mono ?_; rintro e6 w6 ⟨own6, x6, (rfl : e6 = .returned (.agg #[.int .i64 1, .string ByteArray.empty, .int .i64 1125899906842624, .int .u64 0, .int .u64 0, .slice none 0 0]))⟩; have X6 := X5.trans (x6.mono (by decide)); have kT6 := kT5.keep x6 (by decide); have hTt6 := TmS.keep x6 (by decide) _ _ hTt5; have d0T6 := kT6.cell 0 rfl; have d1T6 := kT6.cell 1 rfl; have d2T6 := kT6.cell 2 rfl; have d3T6 := kT6.cell 3 rfl; have d4T6 := kT6.cell 4 rfl; have d5T6 := kT6.cell 5 rfl; have e0T6 := fun o => (kT6.alloc o).cell 0 rfl; have e1T6 := fun o => (kT6.alloc o).cell 1 rfl; have e2T6 := fun o => (kT6.alloc o).cell 2 rfl; have e3T6 := fun o => (kT6.alloc o).cell 3 rfl; have e4T6 := fun o => (kT6.alloc o).cell 4 rfl; have e5T6 := fun o => (kT6.alloc o).cell 5 rfl))
            go_ret
            exact ⟨rfl, (X13.belowStep hb30).below (fun _ _ => rfl) (by decide)⟩
          · have hvd : 0 < VL.length := by omega
            have hvd2 : (0 : Int) < (VL.length : Int) := by omega
            obtain ⟨m, hm, hmk⟩ := mod_nat at_ VL.length (by omega) (by omega)
            have hwl : IntKind.u64.wrap (VL.length : Int) = VL.length := by rw [wrap_u64]; omega
            obtain ⟨yv, hyv⟩ : ∃ y, VL.getD m 0 = y := ⟨_, rfl⟩
            have hml : m < VL.length := by omega
            have hyo : occ yv (cl t) := (HVM.out.1 yv).1 (by rw [← hyv]; simp only [List.getD, List.getElem?_eq_getElem hml, Option.getD_some]; exact List.getElem_mem _)
            obtain ⟨gs, cp2, he, _⟩ := H5.out.2.2.2.form_pos (by omega)
            simp only [Value.slice.injEq] at he
            obtain ⟨rfl, _, rfl⟩ := he

            have hyr := HSM.out _ hyo
            have HYV := Lib.hid (And.intro hyv (And.intro hml (And.intro hyo hyr)))
            clear hyv hyo hyr hv0
            have hmv2 := hmv
            have hat : ∀ b : Bool, True := fun _ => trivial
            go_wp2_with (go_at_call 35; have hq := HONE; clear HONE hq; refine (r1var_any own5 1125899906842624 _).mono ?_; rintro e6 w6 ⟨own6, x6, (rfl : e6 = .returned (.agg #[.int .i64 1, .string ByteArray.empty, .int .i64 1125899906842624, .int .u64 0, .int .u64 0, .slice none 0 0]))⟩; have X6 := X5.trans (x6.mono (by decide)); have kT6 := kT5.keep x6 (by decide); have hTt6 := TmS.keep x6 (by decide) _ _ hTt5; have d0T6 := kT6.cell 0 rfl; have d1T6 := kT6.cell 1 rfl; have d2T6 := kT6.cell 2 rfl; have d3T6 := kT6.cell 3 rfl; have d4T6 := kT6.cell 4 rfl; have d5T6 := kT6.cell 5 rfl; have e0T6 := fun o => (kT6.alloc o).cell 0 rfl; have e1T6 := fun o => (kT6.alloc o).cell 1 rfl; have e2T6 := fun o => (kT6.alloc o).cell 2 rfl; have e3T6 := fun o => (kT6.alloc o).cell 3 rfl; have e4T6 := fun o => (kT6.alloc o).cell 4 rfl; have e5T6 := fun o => (kT6.alloc o).cell 5 rfl; have ey6 := fun o => ((H5.out.2.2.2.keep x6 (by decide)).alloc o).cell m (u := .int .i64 yv) (by rw [List.getElem?_map, getD_i HYV.out.2.1, HYV.out.1]; rfl))
            · rename_i hq
              clear hnin hmv
              have hmv : mayE (.mk 1 ByteArray.empty yv 0 0 []) = 0 := may_var HYV.out.2.2.2.1
              have hyb := HYV.out.2.2.2
              have hyo := HYV.out.2.2.1
              have hcy := H5.out.2.2.2
              by_cases hk1 : t.kind = 1
              · have hk1' : (t.kind == 1) = true := by simpa using hk1
                obtain ⟨s1, s2, c1, c2, WW, ρ, hR⟩ := laidR (s := .mk 1 ByteArray.empty yv 0 0 []) (t := t) hmv HMT.out trivial (tms_ranged t _ hTt5 (mayE_zero.1 HMT.out).1) (by have := HNT.out; show 1 + _ ≤ 4000; omega) (by have := HNT.out; show 3 * 1 + _ + 2 ≤ 20000; omega)
                obtain ⟨ok, L1, T1, hO⟩ := hR.occO (n := yv) rfl hmv HMT.out true (by simpa using hyo)
                obtain ⟨fo, ho1⟩ := hO.occ
                obtain ⟨fu, ho2⟩ := hO.uni
                obtain ⟨ng, Pg, hog⟩ := hO.got
                obtain ⟨CU, hCU⟩ : ∃ C, canon (cl t) = C := ⟨_, rfl⟩
                have hvt := variant_canon HMT.out
                have hmu : mayE (un CU) = 0 := by rw [← hCU]; exact mayE_un (good_canon (mayE_zero.1 HMT.out).2)
                unfold variantB at hvt
                simp only [Bool.and_eq_true] at hvt
                have hv2 : likeB (un (canon (cl (un CU)))) (un (canon (cl t))) = true := by rw [← hCU]; exact hvt.2
                rw [hCU] at hog
                have HLD := Lib.hid (And.intro hR.p1 (And.intro hR.p2 hR.vl))
                have HL := Lib.hid (And.intro hR.u1 (And.intro hR.u2 hR.bnd.l))
                have HRV := Lib.hid (show Rng 1 yv 0 0 ByteArray.empty from ⟨by decide, by omega, by decide, by decide, by decide⟩)
                have HV := Lib.hid (And.intro hv2 hmu)
                have hbn := hR.bnd.names
                have hok := hO.okv
                have hu6 := hO.u64
                have hfw := hO.few
                subst hok
                simp only [hk1, decide_true, Bool.or_true, if_true] at hu6 hfw hog ho2
                have HO := Lib.hid (And.intro ho1 (And.intro ho2 (And.intro hu6 (And.intro hfw (And.intro hbn hog)))))
                clear hR hO ho1 ho2 hu6 hfw hog hbn hvt hv2 hmu hCU hmv
                clear hyb hyo hk1
                obtain ⟨w7, hW7⟩ : ∃ W, w6.alloc (.cells #[.int .i64 1, .string ByteArray.empty, .int .i64 1125899906842624, .int .u64 0, .int .u64 0, .slice none 0 0] 25) = W := ⟨_, rfl⟩
                obtain ⟨own7, y7, kV7, x7⟩ := boxU (Ext.refl own6 [] w6) [.int .i64 1, .string ByteArray.empty, .int .i64 1125899906842624, .int .u64 0, .int .u64 0, .slice none 0 0] 25 10 w7 hW7
                have X7 := X6.trans (x7.mono (by decide))
                have kT7 := kT6.keep x7 (by decide)
                have hTt7 := TmS.keep x7 (by decide) _ _ hTt6
                have d0T7 := kT7.cell 0 rfl
                have d1T7 := kT7.cell 1 rfl
                have d2T7 := kT7.cell 2 rfl
                have d3T7 := kT7.cell 3 rfl
                have d4T7 := kT7.cell 4 rfl
                have d5T7 := kT7.cell 5 rfl
                rw [hW7]
                go_wp2_with (first
                  | (go_at_call 63; refine (awake8_any _).mono ?_; rintro e30 w30 ⟨rfl, hb30⟩)
                  | (go_at_call 43; have hc := variant_any (un CU) (.slice AU lU cU) t (.slice At lt ct) own14 _ hU14 hTt14 HV.out.2 HMT.out; rw [show valT (un CU) (.slice AU lU cU) = .agg #[.int .i64 (un CU).kind, .string (un CU).name, .int .i64 (un CU).int, .int .u64 (un CU).re, .int .u64 (un CU).im, .slice AU lU cU] from rfl, ett, HV.out.1] at hc; refine hc.mono ?_; rintro e15 w15 ⟨own15, x15, rfl⟩; have X15 := X14.trans (x15.mono (by decide)); have kT15 := kT14.keep x15 (by decide); have hTt15 := TmS.keep x15 (by decide) _ _ hTt14; have d0T15 := kT15.cell 0 rfl; have d1T15 := kT15.cell 1 rfl; have d2T15 := kT15.cell 2 rfl; have d3T15 := kT15.cell 3 rfl; have d4T15 := kT15.cell 4 rfl; have d5T15 := kT15.cell 5 rfl)
                  | (go_at_call 42; have hc := sget_new own12 1 2 3 6 (by constructor <;> decide) w12 p pt 20000 c2 L1 s2.L h12 t12 HL.out.2.1.1 HL.out.2.1.2 HO.out.2.2.1 HO.out.2.2.2.1 HO.out.2.2.2.2.1; rw [HO.out.2.2.2.2.2] at hc; refine Calls.mono hc ?_; rintro e13 w13 ⟨own13, x13, hE⟩; unfold GotEnd at hE; rw [if_pos rfl] at hE; obtain ⟨AU, lU, cU, hee, hU13⟩ := hE; obtain rfl : e13 = .returned (.tuple #[.agg #[.int .i64 (un CU).kind, .string (un CU).name, .int .i64 (un CU).int, .int .u64 (un CU).re, .int .u64 (un CU).im, .slice AU lU cU], .int .i64 0]) := hee; have X13 := X12.trans (x13.mono (by decide)); have kT13 := kT12.keep x13 (by decide); have hTt13 := TmS.keep x13 (by decide) _ _ hTt12; have d0T13 := kT13.cell 0 rfl; have d1T13 := kT13.cell 1 rfl; have d2T13 := kT13.cell 2 rfl; have d3T13 := kT13.cell 3 rfl; have d4T13 := kT13.cell 4 rfl; have d5T13 := kT13.cell 5 rfl; obtain ⟨w14, hW14⟩ : ∃ W, w13.alloc (.cells #[.int .i64 (un CU).kind, .string (un CU).name, .int .i64 (un CU).int, .int .u64 (un CU).re, .int .u64 (un CU).im, .slice AU lU cU] 25) = W := ⟨_, rfl⟩; obtain ⟨own14, y14, kU14, x14⟩ := boxU (Ext.refl own13 [] w13) [.int .i64 (un CU).kind, .string (un CU).name, .int .i64 (un CU).int, .int .u64 (un CU).re, .int .u64 (un CU).im, .slice AU lU cU] 25 0 w14 hW14; have X14 := X13.trans (x14.mono (by decide)); have kT14 := kT13.keep x14 (by decide); have hTt14 := TmS.keep x14 (by decide) _ _ hTt13; have d0T14 := kT14.cell 0 rfl; have d1T14 := kT14.cell 1 rfl; have d2T14 := kT14.cell 2 rfl; have d3T14 := kT14.cell 3 rfl; have d4T14 := kT14.cell 4 rfl; have d5T14 := kT14.cell 5 rfl; have hU14 := TmS.keep x14 (by decide) _ _ hU13; have du0_14 := kU14.cell 0 rfl; have du1_14 := kU14.cell 1 rfl; have du2_14 := kU14.cell 2 rfl; have du3_14 := kU14.cell 3 rfl; have du4_14 := kU14.cell 4 rfl; have du5_14 := kU14.cell 5 rfl)
                  | (go_at_call 65; have hun := uunify_any own11 1 5 (by decide) w11 p pr 20000 c1 c2 s2.l [] h11 k11 HL.out.1 HL.out.2.1 HL.out.2.2 (by decide); rw [HO.out.2.1] at hun; simp only [Bool.false_eq_true, if_false, if_true] at hun; refine Calls.mono hun ?_; rintro e12 w12 ⟨own12, x12, (rfl : e12 = .returned (.tuple #[.bool true, .int .i64 0])), h12, k12⟩; have t12 := t11.keep x12 (by decide) (by decide); have X12 := X11.trans (x12.mono (by decide)); have kT12 := kT11.keep x12 (by decide); have hTt12 := TmS.keep x12 (by decide) _ _ hTt11; have d0T12 := kT12.cell 0 rfl; have d1T12 := kT12.cell 1 rfl; have d2T12 := kT12.cell 2 rfl; have d3T12 := kT12.cell 3 rfl; have d4T12 := kT12.cell 4 rfl; have d5T12 := kT12.cell 5 rfl)
                  | (go_at_call 80; have ho := uoccurs_any own10 1 w10 p 20000 c1 c2 s2.l h10 HL.out.1 HL.out.2.1 HL.out.2.2; rw [HO.out.1] at ho; refine Calls.mono ho ?_; rintro e11 w11 ⟨own11, x11, (rfl : e11 = .returned (.tuple #[.bool true, .int .i64 0]))⟩; have X11 := X10.trans (x11.mono (by decide)); have kT11 := kT10.keep x11 (by decide); have hTt11 := TmS.keep x11 (by decide) _ _ hTt10; have h11 := h10.keep x11 (by decide); have t11 := t10.keep x11 (by decide) (by decide); have k11 := k10.keep x11 (by decide); have d0T11 := kT11.cell 0 rfl; have d1T11 := kT11.cell 1 rfl; have d2T11 := kT11.cell 2 rfl; have d3T11 := kT11.cell 3 rfl; have d4T11 := kT11.cell 4 rfl; have d5T11 := kT11.cell 5 rfl)
                  | (go_at_call 68; have hc := laid_any 1 2 3 4 5 (by decide) own9 w9 (.mk 1 ByteArray.empty yv 0 0 []) t (.slice none 0 0) _ (leaf_term HRV.out) hTt9 s1 s2 c1 c2 HLD.out.1 HLD.out.2.1 HLD.out.2.2; rw [show valT (.mk 1 ByteArray.empty yv 0 0 []) (.slice none 0 0) = .agg #[.int .i64 1, .string ByteArray.empty, .int .i64 yv, .int .u64 0, .int .u64 0, .slice none 0 0] from rfl, ett] at hc; refine Calls.mono hc ?_; rintro e10 w10 ⟨own10, x10, p, pt, pr, rfl, h10, t10, k10⟩; have X10 := X9.trans (x10.mono (by decide)); have kT10 := kT9.keep x10 (by decide); have hTt10 := TmS.keep x10 (by decide) _ _ hTt9; have d0T10 := kT10.cell 0 rfl; have d1T10 := kT10.cell 1 rfl; have d2T10 := kT10.cell 2 rfl; have d3T10 := kT10.cell 3 rfl; have d4T10 := kT10.cell 4 rfl; have d5T10 := kT10.cell 5 rfl)
                  | (go_at_call 35; refine (r1var_any own7 yv _).mono ?_; rintro e8 w8 ⟨own8, x8, (rfl : e8 = .returned (.agg #[.int .i64 1, .string ByteArray.empty, .int .i64 yv, .int .u64 0, .int .u64 0, .slice none 0 0]))⟩; have X8 := X7.trans (x8.mono (by decide)); have kT8 := kT7.keep x8 (by decide); have hTt8 := TmS.keep x8 (by decide) _ _ hTt7; have d0T8 := kT8.cell 0 rfl; have d1T8 := kT8.cell 1 rfl; have d2T8 := kT8.cell 2 rfl; have d3T8 := kT8.cell 3 rfl; have d4T8 := kT8.cell 4 rfl; have d5T8 := kT8.cell 5 rfl; have kV8 := kV7.keep x8 (by decide); have dv8_0 := kV8.cell 0 rfl; have dv8_1 := kV8.cell 1 rfl; have dv8_2 := kV8.cell 2 rfl; have dv8_3 := kV8.cell 3 rfl; have dv8_4 := kV8.cell 4 rfl; have dv8_5 := kV8.cell 5 rfl; have fv8_0 := kV8.free 0; have fv8_1 := kV8.free 1; have fv8_2 := kV8.free 2; have fv8_3 := kV8.free 3; have fv8_4 := kV8.free 4; have fv8_5 := kV8.free 5; have z0 := Blk.set kV8 0 (.int .i64 1); have y80 : Ext own8 own8 [10] w8 ((w8).setCell ⟨w6.heap.size, 0, none⟩ (.int .i64 1)) := (Ext.refl own8 [10] _).setCell _ _ (fun _ => (by show own8 w6.heap.size ∈ _; rw [kV8.2]; simp)); have z1 := Blk.set z0 1 (.string ByteArray.empty); have y81 : Ext own8 own8 [10] ((w8).setCell ⟨w6.heap.size, 0, none⟩ (.int .i64 1)) (((w8).setCell ⟨w6.heap.size, 0, none⟩ (.int .i64 1)).setCell ⟨w6.heap.size, 1, none⟩ (.string ByteArray.empty)) := (Ext.refl own8 [10] _).setCell _ _ (fun _ => (by show own8 w6.heap.size ∈ _; rw [kV8.2]; simp)); have z2 := Blk.set z1 2 (.int .i64 yv); have y82 : Ext own8 own8 [10] (((w8).setCell ⟨w6.heap.size, 0, none⟩ (.int .i64 1)).setCell ⟨w6.heap.size, 1, none⟩ (.string ByteArray.empty)) ((((w8).setCell ⟨w6.heap.size, 0, none⟩ (.int .i64 1)).setCell ⟨w6.heap.size, 1, none⟩ (.string ByteArray.empty)).setCell ⟨w6.heap.size, 2, none⟩ (.int .i64 yv)) := (Ext.refl own8 [10] _).setCell _ _ (fun _ => (by show own8 w6.heap.size ∈ _; rw [kV8.2]; simp)); have z3 := Blk.set z2 3 (.int .u64 0); have y83 : Ext own8 own8 [10] ((((w8).setCell ⟨w6.heap.size, 0, none⟩ (.int .i64 1)).setCell ⟨w6.heap.size, 1, none⟩ (.string ByteArray.empty)).setCell ⟨w6.heap.size, 2, none⟩ (.int .i64 yv)) (((((w8).setCell ⟨w6.heap.size, 0, none⟩ (.int .i64 1)).setCell ⟨w6.heap.size, 1, none⟩ (.string ByteArray.empty)).setCell ⟨w6.heap.size, 2, none⟩ (.int .i64 yv)).setCell ⟨w6.heap.size, 3, none⟩ (.int .u64 0)) := (Ext.refl own8 [10] _).setCell _ _ (fun _ => (by show own8 w6.heap.size ∈ _; rw [kV8.2]; simp)); have z4 := Blk.set z3 4 (.int .u64 0); have y84 : Ext own8 own8 [10] (((((w8).setCell ⟨w6.heap.size, 0, none⟩ (.int .i64 1)).setCell ⟨w6.heap.size, 1, none⟩ (.string ByteArray.empty)).setCell ⟨w6.heap.size, 2, none⟩ (.int .i64 yv)).setCell ⟨w6.heap.size, 3, none⟩ (.int .u64 0)) ((((((w8).setCell ⟨w6.heap.size, 0, none⟩ (.int .i64 1)).setCell ⟨w6.heap.size, 1, none⟩ (.string ByteArray.empty)).setCell ⟨w6.heap.size, 2, none⟩ (.int .i64 yv)).setCell ⟨w6.heap.size, 3, none⟩ (.int .u64 0)).setCell ⟨w6.heap.size, 4, none⟩ (.int .u64 0)) := (Ext.refl own8 [10] _).setCell _ _ (fun _ => (by show own8 w6.heap.size ∈ _; rw [kV8.2]; simp)); have z5 := Blk.set z4 5 (.slice none 0 0); have y85 : Ext own8 own8 [10] ((((((w8).setCell ⟨w6.heap.size, 0, none⟩ (.int .i64 1)).setCell ⟨w6.heap.size, 1, none⟩ (.string ByteArray.empty)).setCell ⟨w6.heap.size, 2, none⟩ (.int .i64 yv)).setCell ⟨w6.heap.size, 3, none⟩ (.int .u64 0)).setCell ⟨w6.heap.size, 4, none⟩ (.int .u64 0)) (((((((w8).setCell ⟨w6.heap.size, 0, none⟩ (.int .i64 1)).setCell ⟨w6.heap.size, 1, none⟩ (.string ByteArray.empty)).setCell ⟨w6.heap.size, 2, none⟩ (.int .i64 yv)).setCell ⟨w6.heap.size, 3, none⟩ (.int .u64 0)).setCell ⟨w6.heap.size, 4, none⟩ (.int .u64 0)).setCell ⟨w6.heap.size, 5, none⟩ (.slice none 0 0)) := (Ext.refl own8 [10] _).setCell _ _ (fun _ => (by show own8 w6.heap.size ∈ _; rw [kV8.2]; simp)); obtain ⟨w9, hW9⟩ : ∃ W, ((((((w8).setCell ⟨w6.heap.size, 0, none⟩ (.int .i64 1)).setCell ⟨w6.heap.size, 1, none⟩ (.string ByteArray.empty)).setCell ⟨w6.heap.size, 2, none⟩ (.int .i64 yv)).setCell ⟨w6.heap.size, 3, none⟩ (.int .u64 0)).setCell ⟨w6.heap.size, 4, none⟩ (.int .u64 0)).setCell ⟨w6.heap.size, 5, none⟩ (.slice none 0 0) = W := ⟨_, rfl⟩; have x9 := ((((y80.trans y81).trans y82).trans y83).trans y84).trans y85; rw [hW9] at x9 z5; obtain ⟨own9, ho9⟩ : ∃ o, own8 = o := ⟨_, rfl⟩; replace x9 : Ext own8 own9 [10] w8 w9 := (by rw [← ho9]; exact x9); have kV9 : Blk own9 10 w9 w6.heap.size [.int .i64 1, .string ByteArray.empty, .int .i64 yv, .int .u64 0, .int .u64 0, .slice none 0 0] 25 := (by rw [← ho9]; exact z5); clear z0 z1 z2 z3 z4 z5 y80 y81 y82 y83 y84 y85; have X9 := X8.trans (x9.mono (by decide)); have kT9 := kT8.keep x9 (by decide); have hTt9 := TmS.keep x9 (by decide) _ _ hTt8; have d0T9 := kT9.cell 0 rfl; have d1T9 := kT9.cell 1 rfl; have d2T9 := kT9.cell 2 rfl; have d3T9 := kT9.cell 3 rfl; have d4T9 := kT9.cell 4 rfl; have d5T9 := kT9.cell 5 rfl; have dv9_0 := kV9.cell 0 rfl; have dv9_1 := kV9.cell 1 rfl; have dv9_2 := kV9.cell 2 rfl; have dv9_3 := kV9.cell 3 rfl; have dv9_4 := kV9.cell 4 rfl; have dv9_5 := kV9.cell 5 rfl))
                go_ret
                exact ⟨rfl, (X15.belowStep hb30).below (fun _ _ => rfl) (by decide)⟩
              · have hk1' : (t.kind == 1) = false := by simpa using hk1
                obtain ⟨s1, s2, c1, c2, WW, ρ, hR⟩ := laidR (s := .mk 1 ByteArray.empty yv 0 0 []) (t := t) hmv HMT.out trivial (tms_ranged t _ hTt5 (mayE_zero.1 HMT.out).1) (by have := HNT.out; show 1 + _ ≤ 4000; omega) (by have := HNT.out; show 3 * 1 + _ + 2 ≤ 20000; omega)
                obtain ⟨ok, L1, T1, hO⟩ := hR.occO (n := yv) rfl hmv HMT.out true (by simpa using hyo)
                obtain ⟨fo, ho1⟩ := hO.occ
                obtain ⟨fu, ho2⟩ := hO.uni
                obtain ⟨ng, Pg, hog⟩ := hO.got
                obtain ⟨CU, hCU⟩ : ∃ C, canon (cl t) = C := ⟨_, rfl⟩
                have hvt := variant_canon HMT.out
                have hmu : mayE (un CU) = 0 := by rw [← hCU]; exact mayE_un (good_canon (mayE_zero.1 HMT.out).2)
                unfold variantB at hvt
                simp only [Bool.and_eq_true] at hvt
                have hv2 : likeB (un (canon (cl (un CU)))) (un (canon (cl t))) = true := by rw [← hCU]; exact hvt.2
                rw [hCU] at hog
                have HLD := Lib.hid (And.intro hR.p1 (And.intro hR.p2 hR.vl))
                have HL := Lib.hid (And.intro hR.u1 (And.intro hR.u2 hR.bnd.l))
                have HRV := Lib.hid (show Rng 1 yv 0 0 ByteArray.empty from ⟨by decide, by omega, by decide, by decide, by decide⟩)
                have HV := Lib.hid (And.intro hv2 hmu)
                have hbn := hR.bnd.names
                have hok := hO.okv
                have hu6 := hO.u64
                have hfw := hO.few
                subst hok
                simp only [hk1, Bool.not_true, Bool.false_or, decide_false, Bool.false_eq_true, if_false] at hu6 hfw hog ho2
                have HO := Lib.hid (And.intro ho1 (And.intro ho2 (And.intro hu6 (And.intro hfw (And.intro hbn hog)))))
                clear hR hO ho1 ho2 hu6 hfw hog hbn hvt hv2 hmu hCU hmv
                clear hyb hyo hk1
                obtain ⟨w7, hW7⟩ : ∃ W, w6.alloc (.cells #[.int .i64 1, .string ByteArray.empty, .int .i64 1125899906842624, .int .u64 0, .int .u64 0, .slice none 0 0] 25) = W := ⟨_, rfl⟩
                obtain ⟨own7, y7, kV7, x7⟩ := boxU (Ext.refl own6 [] w6) [.int .i64 1, .string ByteArray.empty, .int .i64 1125899906842624, .int .u64 0, .int .u64 0, .slice none 0 0] 25 10 w7 hW7
                have X7 := X6.trans (x7.mono (by decide))
                have kT7 := kT6.keep x7 (by decide)
                have hTt7 := TmS.keep x7 (by decide) _ _ hTt6
                have d0T7 := kT7.cell 0 rfl
                have d1T7 := kT7.cell 1 rfl
                have d2T7 := kT7.cell 2 rfl
                have d3T7 := kT7.cell 3 rfl
                have d4T7 := kT7.cell 4 rfl
                have d5T7 := kT7.cell 5 rfl
                rw [hW7]
                go_wp2_with (first
                  | (go_at_call 63; refine (awake8_any _).mono ?_; rintro e30 w30 ⟨rfl, hb30⟩)
                  | (go_at_call 43; have hc := variant_any (un CU) (.slice AU lU cU) t (.slice At lt ct) own14 _ hU14 hTt14 HV.out.2 HMT.out; rw [show valT (un CU) (.slice AU lU cU) = .agg #[.int .i64 (un CU).kind, .string (un CU).name, .int .i64 (un CU).int, .int .u64 (un CU).re, .int .u64 (un CU).im, .slice AU lU cU] from rfl, ett, HV.out.1] at hc; refine hc.mono ?_; rintro e15 w15 ⟨own15, x15, rfl⟩; have X15 := X14.trans (x15.mono (by decide)); have kT15 := kT14.keep x15 (by decide); have hTt15 := TmS.keep x15 (by decide) _ _ hTt14; have d0T15 := kT15.cell 0 rfl; have d1T15 := kT15.cell 1 rfl; have d2T15 := kT15.cell 2 rfl; have d3T15 := kT15.cell 3 rfl; have d4T15 := kT15.cell 4 rfl; have d5T15 := kT15.cell 5 rfl)
                  | (go_at_call 42; have hc := sget_new own12 1 2 3 6 (by constructor <;> decide) w12 p pt 20000 c2 s2.l s2.L h12 t12 HL.out.2.1.1 HL.out.2.1.2 HO.out.2.2.1 HO.out.2.2.2.1 HO.out.2.2.2.2.1; rw [HO.out.2.2.2.2.2] at hc; refine Calls.mono hc ?_; rintro e13 w13 ⟨own13, x13, hE⟩; unfold GotEnd at hE; rw [if_pos rfl] at hE; obtain ⟨AU, lU, cU, hee, hU13⟩ := hE; obtain rfl : e13 = .returned (.tuple #[.agg #[.int .i64 (un CU).kind, .string (un CU).name, .int .i64 (un CU).int, .int .u64 (un CU).re, .int .u64 (un CU).im, .slice AU lU cU], .int .i64 0]) := hee; have X13 := X12.trans (x13.mono (by decide)); have kT13 := kT12.keep x13 (by decide); have hTt13 := TmS.keep x13 (by decide) _ _ hTt12; have d0T13 := kT13.cell 0 rfl; have d1T13 := kT13.cell 1 rfl; have d2T13 := kT13.cell 2 rfl; have d3T13 := kT13.cell 3 rfl; have d4T13 := kT13.cell 4 rfl; have d5T13 := kT13.cell 5 rfl; obtain ⟨w14, hW14⟩ : ∃ W, w13.alloc (.cells #[.int .i64 (un CU).kind, .string (un CU).name, .int .i64 (un CU).int, .int .u64 (un CU).re, .int .u64 (un CU).im, .slice AU lU cU] 25) = W := ⟨_, rfl⟩; obtain ⟨own14, y14, kU14, x14⟩ := boxU (Ext.refl own13 [] w13) [.int .i64 (un CU).kind, .string (un CU).name, .int .i64 (un CU).int, .int .u64 (un CU).re, .int .u64 (un CU).im, .slice AU lU cU] 25 0 w14 hW14; have X14 := X13.trans (x14.mono (by decide)); have kT14 := kT13.keep x14 (by decide); have hTt14 := TmS.keep x14 (by decide) _ _ hTt13; have d0T14 := kT14.cell 0 rfl; have d1T14 := kT14.cell 1 rfl; have d2T14 := kT14.cell 2 rfl; have d3T14 := kT14.cell 3 rfl; have d4T14 := kT14.cell 4 rfl; have d5T14 := kT14.cell 5 rfl; have hU14 := TmS.keep x14 (by decide) _ _ hU13; have du0_14 := kU14.cell 0 rfl; have du1_14 := kU14.cell 1 rfl; have du2_14 := kU14.cell 2 rfl; have du3_14 := kU14.cell 3 rfl; have du4_14 := kU14.cell 4 rfl; have du5_14 := kU14.cell 5 rfl)
                  | (go_at_call 65; have hun := uunify_any own11 1 5 (by decide) w11 p pr 20000 c1 c2 s2.l [] h11 k11 HL.out.1 HL.out.2.1 HL.out.2.2 (by decide); rw [HO.out.2.1] at hun; simp only [Bool.false_eq_true, if_false, if_true] at hun; refine Calls.mono hun ?_; rintro e12 w12 ⟨own12, x12, (rfl : e12 = .returned (.tuple #[.bool false, .int .i64 0])), h12, k12⟩; have t12 := t11.keep x12 (by decide) (by decide); have X12 := X11.trans (x12.mono (by decide)); have kT12 := kT11.keep x12 (by decide); have hTt12 := TmS.keep x12 (by decide) _ _ hTt11; have d0T12 := kT12.cell 0 rfl; have d1T12 := kT12.cell 1 rfl; have d2T12 := kT12.cell 2 rfl; have d3T12 := kT12.cell 3 rfl; have d4T12 := kT12.cell 4 rfl; have d5T12 := kT12.cell 5 rfl)
                  | (go_at_call 80; have ho := uoccurs_any own10 1 w10 p 20000 c1 c2 s2.l h10 HL.out.1 HL.out.2.1 HL.out.2.2; rw [HO.out.1] at ho; refine Calls.mono ho ?_; rintro e11 w11 ⟨own11, x11, (rfl : e11 = .returned (.tuple #[.bool true, .int .i64 0]))⟩; have X11 := X10.trans (x11.mono (by decide)); have kT11 := kT10.keep x11 (by decide); have hTt11 := TmS.keep x11 (by decide) _ _ hTt10; have h11 := h10.keep x11 (by decide); have t11 := t10.keep x11 (by decide) (by decide); have k11 := k10.keep x11 (by decide); have d0T11 := kT11.cell 0 rfl; have d1T11 := kT11.cell 1 rfl; have d2T11 := kT11.cell 2 rfl; have d3T11 := kT11.cell 3 rfl; have d4T11 := kT11.cell 4 rfl; have d5T11 := kT11.cell 5 rfl)
                  | (go_at_call 68; have hc := laid_any 1 2 3 4 5 (by decide) own9 w9 (.mk 1 ByteArray.empty yv 0 0 []) t (.slice none 0 0) _ (leaf_term HRV.out) hTt9 s1 s2 c1 c2 HLD.out.1 HLD.out.2.1 HLD.out.2.2; rw [show valT (.mk 1 ByteArray.empty yv 0 0 []) (.slice none 0 0) = .agg #[.int .i64 1, .string ByteArray.empty, .int .i64 yv, .int .u64 0, .int .u64 0, .slice none 0 0] from rfl, ett] at hc; refine Calls.mono hc ?_; rintro e10 w10 ⟨own10, x10, p, pt, pr, rfl, h10, t10, k10⟩; have X10 := X9.trans (x10.mono (by decide)); have kT10 := kT9.keep x10 (by decide); have hTt10 := TmS.keep x10 (by decide) _ _ hTt9; have d0T10 := kT10.cell 0 rfl; have d1T10 := kT10.cell 1 rfl; have d2T10 := kT10.cell 2 rfl; have d3T10 := kT10.cell 3 rfl; have d4T10 := kT10.cell 4 rfl; have d5T10 := kT10.cell 5 rfl)
                  | (go_at_call 35; refine (r1var_any own7 yv _).mono ?_; rintro e8 w8 ⟨own8, x8, (rfl : e8 = .returned (.agg #[.int .i64 1, .string ByteArray.empty, .int .i64 yv, .int .u64 0, .int .u64 0, .slice none 0 0]))⟩; have X8 := X7.trans (x8.mono (by decide)); have kT8 := kT7.keep x8 (by decide); have hTt8 := TmS.keep x8 (by decide) _ _ hTt7; have d0T8 := kT8.cell 0 rfl; have d1T8 := kT8.cell 1 rfl; have d2T8 := kT8.cell 2 rfl; have d3T8 := kT8.cell 3 rfl; have d4T8 := kT8.cell 4 rfl; have d5T8 := kT8.cell 5 rfl; have kV8 := kV7.keep x8 (by decide); have dv8_0 := kV8.cell 0 rfl; have dv8_1 := kV8.cell 1 rfl; have dv8_2 := kV8.cell 2 rfl; have dv8_3 := kV8.cell 3 rfl; have dv8_4 := kV8.cell 4 rfl; have dv8_5 := kV8.cell 5 rfl; have fv8_0 := kV8.free 0; have fv8_1 := kV8.free 1; have fv8_2 := kV8.free 2; have fv8_3 := kV8.free 3; have fv8_4 := kV8.free 4; have fv8_5 := kV8.free 5; have z0 := Blk.set kV8 0 (.int .i64 1); have y80 : Ext own8 own8 [10] w8 ((w8).setCell ⟨w6.heap.size, 0, none⟩ (.int .i64 1)) := (Ext.refl own8 [10] _).setCell _ _ (fun _ => (by show own8 w6.heap.size ∈ _; rw [kV8.2]; simp)); have z1 := Blk.set z0 1 (.string ByteArray.empty); have y81 : Ext own8 own8 [10] ((w8).setCell ⟨w6.heap.size, 0, none⟩ (.int .i64 1)) (((w8).setCell ⟨w6.heap.size, 0, none⟩ (.int .i64 1)).setCell ⟨w6.heap.size, 1, none⟩ (.string ByteArray.empty)) := (Ext.refl own8 [10] _).setCell _ _ (fun _ => (by show own8 w6.heap.size ∈ _; rw [kV8.2]; simp)); have z2 := Blk.set z1 2 (.int .i64 yv); have y82 : Ext own8 own8 [10] (((w8).setCell ⟨w6.heap.size, 0, none⟩ (.int .i64 1)).setCell ⟨w6.heap.size, 1, none⟩ (.string ByteArray.empty)) ((((w8).setCell ⟨w6.heap.size, 0, none⟩ (.int .i64 1)).setCell ⟨w6.heap.size, 1, none⟩ (.string ByteArray.empty)).setCell ⟨w6.heap.size, 2, none⟩ (.int .i64 yv)) := (Ext.refl own8 [10] _).setCell _ _ (fun _ => (by show own8 w6.heap.size ∈ _; rw [kV8.2]; simp)); have z3 := Blk.set z2 3 (.int .u64 0); have y83 : Ext own8 own8 [10] ((((w8).setCell ⟨w6.heap.size, 0, none⟩ (.int .i64 1)).setCell ⟨w6.heap.size, 1, none⟩ (.string ByteArray.empty)).setCell ⟨w6.heap.size, 2, none⟩ (.int .i64 yv)) (((((w8).setCell ⟨w6.heap.size, 0, none⟩ (.int .i64 1)).setCell ⟨w6.heap.size, 1, none⟩ (.string ByteArray.empty)).setCell ⟨w6.heap.size, 2, none⟩ (.int .i64 yv)).setCell ⟨w6.heap.size, 3, none⟩ (.int .u64 0)) := (Ext.refl own8 [10] _).setCell _ _ (fun _ => (by show own8 w6.heap.size ∈ _; rw [kV8.2]; simp)); have z4 := Blk.set z3 4 (.int .u64 0); have y84 : Ext own8 own8 [10] (((((w8).setCell ⟨w6.heap.size, 0, none⟩ (.int .i64 1)).setCell ⟨w6.heap.size, 1, none⟩ (.string ByteArray.empty)).setCell ⟨w6.heap.size, 2, none⟩ (.int .i64 yv)).setCell ⟨w6.heap.size, 3, none⟩ (.int .u64 0)) ((((((w8).setCell ⟨w6.heap.size, 0, none⟩ (.int .i64 1)).setCell ⟨w6.heap.size, 1, none⟩ (.string ByteArray.empty)).setCell ⟨w6.heap.size, 2, none⟩ (.int .i64 yv)).setCell ⟨w6.heap.size, 3, none⟩ (.int .u64 0)).setCell ⟨w6.heap.size, 4, none⟩ (.int .u64 0)) := (Ext.refl own8 [10] _).setCell _ _ (fun _ => (by show own8 w6.heap.size ∈ _; rw [kV8.2]; simp)); have z5 := Blk.set z4 5 (.slice none 0 0); have y85 : Ext own8 own8 [10] ((((((w8).setCell ⟨w6.heap.size, 0, none⟩ (.int .i64 1)).setCell ⟨w6.heap.size, 1, none⟩ (.string ByteArray.empty)).setCell ⟨w6.heap.size, 2, none⟩ (.int .i64 yv)).setCell ⟨w6.heap.size, 3, none⟩ (.int .u64 0)).setCell ⟨w6.heap.size, 4, none⟩ (.int .u64 0)) (((((((w8).setCell ⟨w6.heap.size, 0, none⟩ (.int .i64 1)).setCell ⟨w6.heap.size, 1, none⟩ (.string ByteArray.empty)).setCell ⟨w6.heap.size, 2, none⟩ (.int .i64 yv)).setCell ⟨w6.heap.size, 3, none⟩ (.int .u64 0)).setCell ⟨w6.heap.size, 4, none⟩ (.int .u64 0)).setCell ⟨w6.heap.size, 5, none⟩ (.slice none 0 0)) := (Ext.refl own8 [10] _).setCell _ _ (fun _ => (by show own8 w6.heap.size ∈ _; rw [kV8.2]; simp)); obtain ⟨w9, hW9⟩ : ∃ W, ((((((w8).setCell ⟨w6.heap.size, 0, none⟩ (.int .i64 1)).setCell ⟨w6.heap.size, 1, none⟩ (.string ByteArray.empty)).setCell ⟨w6.heap.size, 2, none⟩ (.int .i64 yv)).setCell ⟨w6.heap.size, 3, none⟩ (.int .u64 0)).setCell ⟨w6.heap.size, 4, none⟩ (.int .u64 0)).setCell ⟨w6.heap.size, 5, none⟩ (.slice none 0 0) = W := ⟨_, rfl⟩; have x9 := ((((y80.trans y81).trans y82).trans y83).trans y84).trans y85; rw [hW9] at x9 z5; obtain ⟨own9, ho9⟩ : ∃ o, own8 = o := ⟨_, rfl⟩; replace x9 : Ext own8 own9 [10] w8 w9 := (by rw [← ho9]; exact x9); have kV9 : Blk own9 10 w9 w6.heap.size [.int .i64 1, .string ByteArray.empty, .int .i64 yv, .int .u64 0, .int .u64 0, .slice none 0 0] 25 := (by rw [← ho9]; exact z5); clear z0 z1 z2 z3 z4 z5 y80 y81 y82 y83 y84 y85; have X9 := X8.trans (x9.mono (by decide)); have kT9 := kT8.keep x9 (by decide); have hTt9 := TmS.keep x9 (by decide) _ _ hTt8; have d0T9 := kT9.cell 0 rfl; have d1T9 := kT9.cell 1 rfl; have d2T9 := kT9.cell 2 rfl; have d3T9 := kT9.cell 3 rfl; have d4T9 := kT9.cell 4 rfl; have d5T9 := kT9.cell 5 rfl; have dv9_0 := kV9.cell 0 rfl; have dv9_1 := kV9.cell 1 rfl; have dv9_2 := kV9.cell 2 rfl; have dv9_3 := kV9.cell 3 rfl; have dv9_4 := kV9.cell 4 rfl; have dv9_5 := kV9.cell 5 rfl))
                go_ret
                exact ⟨rfl, (X15.belowStep hb30).below (fun _ _ => rfl) (by decide)⟩
            · rename_i hq
              obtain ⟨s1, s2, c1, c2, WW, ρ, hR⟩ := laidR (s := .mk 1 ByteArray.empty 1125899906842624 0 0 []) (t := t) hmv HMT.out trivial (tms_ranged t _ hTt5 (mayE_zero.1 HMT.out).1) (by have := HNT.out; show 1 + _ ≤ 4000; omega) (by have := HNT.out; show 3 * 1 + _ + 2 ≤ 20000; omega)
              obtain ⟨ok, L1, T1, hO⟩ := hR.occO (n := 1125899906842624) rfl hmv HMT.out false (by simpa using hnin)
              obtain ⟨fo, ho1⟩ := hO.occ
              obtain ⟨fu, ho2⟩ := hO.uni
              obtain ⟨ng, Pg, hog⟩ := hO.got
              obtain ⟨CU, hCU⟩ : ∃ C, canon (cl t) = C := ⟨_, rfl⟩
              have hvt := variant_canon HMT.out
              have hmu : mayE (un CU) = 0 := by rw [← hCU]; exact mayE_un (good_canon (mayE_zero.1 HMT.out).2)
              unfold variantB at hvt
              simp only [Bool.and_eq_true] at hvt
              have hv2 : likeB (un (canon (cl (un CU)))) (un (canon (cl t))) = true := by rw [← hCU]; exact hvt.2
              rw [hCU] at hog
              have HLD := Lib.hid (And.intro hR.p1 (And.intro hR.p2 hR.vl))
              have HL := Lib.hid (And.intro hR.u1 (And.intro hR.u2 hR.bnd.l))
              have HRV := Lib.hid (show Rng 1 1125899906842624 0 0 ByteArray.empty from ⟨by decide, by omega, by decide, by decide, by decide⟩)
              have HV := Lib.hid (And.intro hv2 hmu)
              have hbn := hR.bnd.names
              have hok := hO.okv
              have hu6 := hO.u64
              have hfw := hO.few
              subst hok
              simp only [Bool.not_false, Bool.true_or, if_true] at hu6 hfw hog ho2
              have HO := Lib.hid (And.intro ho1 (And.intro ho2 (And.intro hu6 (And.intro hfw (And.intro hbn hog)))))
              clear hR hO ho1 ho2 hu6 hfw hog hbn hvt hv2 hmu hCU hmv
              clear hnin
              go_wp2_with (first
                | (go_at_call 63; refine (awake8_any _).mono ?_; rintro e30 w30 ⟨rfl, hb30⟩)
                | (go_at_call 43; have hc := variant_any (un CU) (.slice AU lU cU) t (.slice At lt ct) own12 _ hU12 hTt12 HV.out.2 HMT.out; rw [show valT (un CU) (.slice AU lU cU) = .agg #[.int .i64 (un CU).kind, .string (un CU).name, .int .i64 (un CU).int, .int .u64 (un CU).re, .int .u64 (un CU).im, .slice AU lU cU] from rfl, ett, HV.out.1] at hc; refine hc.mono ?_; rintro e13 w13 ⟨own13, x13, rfl⟩; have X13 := X12.trans (x13.mono (by decide)); have kT13 := kT12.keep x13 (by decide); have hTt13 := TmS.keep x13 (by decide) _ _ hTt12; have d0T13 := kT13.cell 0 rfl; have d1T13 := kT13.cell 1 rfl; have d2T13 := kT13.cell 2 rfl; have d3T13 := kT13.cell 3 rfl; have d4T13 := kT13.cell 4 rfl; have d5T13 := kT13.cell 5 rfl)
                | (go_at_call 42; have hc := sget_new own10 1 2 3 6 (by constructor <;> decide) w10 p pt 20000 c2 L1 s2.L h10 t10 HL.out.2.1.1 HL.out.2.1.2 HO.out.2.2.1 HO.out.2.2.2.1 HO.out.2.2.2.2.1; rw [HO.out.2.2.2.2.2] at hc; refine Calls.mono hc ?_; rintro e11 w11 ⟨own11, x11, hE⟩; unfold GotEnd at hE; rw [if_pos rfl] at hE; obtain ⟨AU, lU, cU, hee, hU11⟩ := hE; obtain rfl : e11 = .returned (.tuple #[.agg #[.int .i64 (un CU).kind, .string (un CU).name, .int .i64 (un CU).int, .int .u64 (un CU).re, .int .u64 (un CU).im, .slice AU lU cU], .int .i64 0]) := hee; have X11 := X10.trans (x11.mono (by decide)); have kT11 := kT10.keep x11 (by decide); have hTt11 := TmS.keep x11 (by decide) _ _ hTt10; have d0T11 := kT11.cell 0 rfl; have d1T11 := kT11.cell 1 rfl; have d2T11 := kT11.cell 2 rfl; have d3T11 := kT11.cell 3 rfl; have d4T11 := kT11.cell 4 rfl; have d5T11 := kT11.cell 5 rfl; obtain ⟨w12, hW12⟩ : ∃ W, w11.alloc (.cells #[.int .i64 (un CU).kind, .string (un CU).name, .int .i64 (un CU).int, .int .u64 (un CU).re, .int .u64 (un CU).im, .slice AU lU cU] 25) = W := ⟨_, rfl⟩; obtain ⟨own12, y12, kU12, x12⟩ := boxU (Ext.refl own11 [] w11) [.int .i64 (un CU).kind, .string (un CU).name, .int .i64 (un CU).int, .int .u64 (un CU).re, .int .u64 (un CU).im, .slice AU lU cU] 25 0 w12 hW12; have X12 := X11.trans (x12.mono (by decide)); have kT12 := kT11.keep x12 (by decide); have hTt12 := TmS.keep x12 (by decide) _ _ hTt11; have d0T12 := kT12.cell 0 rfl; have d1T12 := kT12.cell 1 rfl; have d2T12 := kT12.cell 2 rfl; have d3T12 := kT12.cell 3 rfl; have d4T12 := kT12.cell 4 rfl; have d5T12 := kT12.cell 5 rfl; have hU12 := TmS.keep x12 (by decide) _ _ hU11; have du0_12 := kU12.cell 0 rfl; have du1_12 := kU12.cell 1 rfl; have du2_12 := kU12.cell 2 rfl; have du3_12 := kU12.cell 3 rfl; have du4_12 := kU12.cell 4 rfl; have du5_12 := kU12.cell 5 rfl)
                | (go_at_call 65; have hun := uunify_any own9 1 5 (by decide) w9 p pr 20000 c1 c2 s2.l [] h9 k9 HL.out.1 HL.out.2.1 HL.out.2.2 (by decide); rw [HO.out.2.1] at hun; simp only [Bool.false_eq_true, if_false, if_true] at hun; refine Calls.mono hun ?_; rintro e10 w10 ⟨own10, x10, (rfl : e10 = .returned (.tuple #[.bool true, .int .i64 0])), h10, k10⟩; have t10 := t9.keep x10 (by decide) (by decide); have X10 := X9.trans (x10.mono (by decide)); have kT10 := kT9.keep x10 (by decide); have hTt10 := TmS.keep x10 (by decide) _ _ hTt9; have d0T10 := kT10.cell 0 rfl; have d1T10 := kT10.cell 1 rfl; have d2T10 := kT10.cell 2 rfl; have d3T10 := kT10.cell 3 rfl; have d4T10 := kT10.cell 4 rfl; have d5T10 := kT10.cell 5 rfl)
                | (go_at_call 80; have ho := uoccurs_any own8 1 w8 p 20000 c1 c2 s2.l h8 HL.out.1 HL.out.2.1 HL.out.2.2; rw [HO.out.1] at ho; refine Calls.mono ho ?_; rintro e9 w9 ⟨own9, x9, (rfl : e9 = .returned (.tuple #[.bool false, .int .i64 0]))⟩; have X9 := X8.trans (x9.mono (by decide)); have kT9 := kT8.keep x9 (by decide); have hTt9 := TmS.keep x9 (by decide) _ _ hTt8; have h9 := h8.keep x9 (by decide); have t9 := t8.keep x9 (by decide) (by decide); have k9 := k8.keep x9 (by decide); have d0T9 := kT9.cell 0 rfl; have d1T9 := kT9.cell 1 rfl; have d2T9 := kT9.cell 2 rfl; have d3T9 := kT9.cell 3 rfl; have d4T9 := kT9.cell 4 rfl; have d5T9 := kT9.cell 5 rfl)
                | (go_at_call 68; obtain ⟨w7, hW7⟩ : ∃ W, w6.alloc (.cells #[.int .i64 1, .string ByteArray.empty, .int .i64 1125899906842624, .int .u64 0, .int .u64 0, .slice none 0 0] 25) = W := ⟨_, rfl⟩; obtain ⟨own7, y7, kV7, x7⟩ := boxU (Ext.refl own6 [] w6) [.int .i64 1, .string ByteArray.empty, .int .i64 1125899906842624, .int .u64 0, .int .u64 0, .slice none 0 0] 25 10 w7 hW7; have X7 := X6.trans (x7.mono (by decide)); have kT7 := kT6.keep x7 (by decide); have hTt7 := TmS.keep x7 (by decide) _ _ hTt6; have d0T7 := kT7.cell 0 rfl; have d1T7 := kT7.cell 1 rfl; have d2T7 := kT7.cell 2 rfl; have d3T7 := kT7.cell 3 rfl; have d4T7 := kT7.cell 4 rfl; have d5T7 := kT7.cell 5 rfl; rw [hW7]; have hc := laid_any 1 2 3 4 5 (by decide) own7 w7 (.mk 1 ByteArray.empty 1125899906842624 0 0 []) t (.slice none 0 0) _ (leaf_term HRV.out) hTt7 s1 s2 c1 c2 HLD.out.1 HLD.out.2.1 HLD.out.2.2; rw [show valT (.mk 1 ByteArray.empty 1125899906842624 0 0 []) (.slice none 0 0) = .agg #[.int .i64 1, .string ByteArray.empty, .int .i64 1125899906842624, .int .u64 0, .int .u64 0, .slice none 0 0] from rfl, ett] at hc; refine Calls.mono hc ?_; rintro e8 w8 ⟨own8, x8, p, pt, pr, rfl, h8, t8, k8⟩; have X8 := X7.trans (x8.mono (by decide)); have kT8 := kT7.keep x8 (by decide); have hTt8 := TmS.keep x8 (by decide) _ _ hTt7; have d0T8 := kT8.cell 0 rfl; have d1T8 := kT8.cell 1 rfl; have d2T8 := kT8.cell 2 rfl; have d3T8 := kT8.cell 3 rfl; have d4T8 := kT8.cell 4 rfl; have d5T8 := kT8.cell 5 rfl))
              go_ret
              exact ⟨rfl, (X13.belowStep hb30).below (fun _ _ => rfl) (by decide)⟩
    · have hnt' : (200 : Int) < (nodesN t : Int) := by omega
      clear hnt hmt
      go_enter Try.func21, Try.ntmps21
      go_wp2_with (first
        | (go_at_call 63; refine (awake8_any _).mono ?_; rintro e30 w30 ⟨rfl, hb30⟩)
        | (go_at_call 53; have hc := rnodes_any t _ own3 _ hTt3; rw [ett] at hc; refine hc.mono ?_; rintro e4 w4 ⟨own4, x4, rfl⟩; have X4 := X3.trans (x4.mono (by decide)); have kT4 := kT3.keep x4 (by decide); have hTt4 := TmS.keep x4 (by decide) _ _ hTt3; have d0T4 := kT4.cell 0 rfl; have d1T4 := kT4.cell 1 rfl; have d2T4 := kT4.cell 2 rfl; have d3T4 := kT4.cell 3 rfl; have d4T4 := kT4.cell 4 rfl; have d5T4 := kT4.cell 5 rfl)
        | (go_at_call 24; have hc := rmay_any t _ own2 _ hTt2; rw [ett] at hc; refine hc.mono ?_; rintro e3 w3 ⟨own3, x3, rfl⟩; have X3 := X2.trans (x3.mono (by decide)); have kT3 := kT2.keep x3 (by decide); have hTt3 := TmS.keep x3 (by decide) _ _ hTt2; have d0T3 := kT3.cell 0 rfl; have d1T3 := kT3.cell 1 rfl; have d2T3 := kT3.cell 2 rfl; have d3T3 := kT3.cell 3 rfl; have d4T3 := kT3.cell 4 rfl; have d5T3 := kT3.cell 5 rfl))
      go_ret
      exact ⟨rfl, (X4.belowStep hb30).below (fun _ _ => rfl) (by decide)⟩
  · have hmt' : (mayE t != 0) = true := by simpa using hmt
    clear hmt
    go_enter Try.func21, Try.ntmps21
    go_wp2_with (first
      | (go_at_call 63; refine (awake8_any _).mono ?_; rintro e30 w30 ⟨rfl, hb30⟩)
      | (go_at_call 24; have hc := rmay_any t _ own2 _ hTt2; rw [ett] at hc; refine hc.mono ?_; rintro e3 w3 ⟨own3, x3, rfl⟩; have X3 := X2.trans (x3.mono (by decide)); have kT3 := kT2.keep x3 (by decide); have hTt3 := TmS.keep x3 (by decide) _ _ hTt2; have d0T3 := kT3.cell 0 rfl; have d1T3 := kT3.cell 1 rfl; have d2T3 := kT3.cell 2 rfl; have d3T3 := kT3.cell 3 rfl; have d4T3 := kT3.cell 4 rfl; have d5T3 := kT3.cell 5 rfl))
    go_ret
    exact ⟨rfl, (X3.belowStep hb30).below (fun _ _ => rfl) (by decide)⟩

end Go.Proofs.Ytlmcfclonncgbaa
