/- The reader's compound (package store). -/
import Derived.Test.YtlmcfclonncgbaaDTerm
namespace Go.Proofs.Ytlmcfclonncgbaa
open Go.RowKit
set_option linter.unusedVariables false
set_option linter.unusedSimpArgs false

theorem partsN_rng (c : Int) : 0 ≤ partsN c ∧ partsN c ≤ 255 := by unfold partsN; split <;> omega
set_option maxHeartbeats 1600000 in
set_option maxRecDepth 100000 in
theorem dcomp_any (d : Int) (hd0 : 0 ≤ d) (hd1 : d ≤ 500) (f : Int → Nat → List Int → GR) (own : Nat → Nat) (idr idh ida idm idv : Nat) (hids : IdsG idr idh ida idm idv) (w : World) (r ph pa pm n : Nat) (most D : Int) (l P : List Int) (L : List ByteArray)
    (hf : ∀ (own : Nat → Nat) (w : World) (n : Nat) (P : List Int) (c : Int), RB own idr w r ph pa pm n → HP own idh w ph most l → TabP own ida idm w pa L → RM own idv w pm (numV P 0) → 0 ≤ c → c < 18446744073709551616 → n ≤ 2000 → P.length ≤ 998000 + n →
      Calls Try.prog 92 #[.pointer (some ⟨r, 0, none⟩), .int .u64 c, .int .i64 (d + 1)] w (Does own [idr, idv] w fun own' e w' => GetEnd own' w' idr idv r ph pa pm (f c n P) e ∧ (f c n P).2.2.1 ≤ 2000 ∧ (f c n P).2.2.2.length ≤ 998000 + (f c n P).2.2.1))
    (hb : RB own idr w r ph pa pm n) (hh : HP own idh w ph most l) (ha : TabP own ida idm w pa L) (hM : RM own idv w pm (numV P 0)) (hc0 : 0 ≤ D) (hc1 : D < 18446744073709551616) (ht : D % 8 = 1) (hl0 : ∀ x ∈ l, 0 ≤ x ∧ x < 18446744073709551616) (hll : l.length ≤ 1048576) (hLL : L.length ≤ 4096) (hn : n ≤ 2000) (hP : P.length ≤ 998000 + n) :
    Calls Try.prog 128 #[.pointer (some ⟨r, 0, none⟩), .int .u64 D, .int .i64 d] w (Does own [idr, idv] w fun own' e w' => GetEnd own' w' idr idv r ph pa pm (compG l L f D n P) e) := by
  obtain ⟨F0, hF0, hFF⟩ := own_ne own w.heap.size
  obtain ⟨F, hF⟩ : ∃ F, F0 + idr + idh + ida + idm + idv + 1 = F := ⟨_, rfl⟩
  obtain ⟨x1, kZ, y1⟩ := (Ext.refl own [idr, idv] w).box [.int .i64 0, .string { data := #[] }, .int .i64 0, .int .u64 0, .int .u64 0, .slice none 0 0] 25 F
  replace hb := Blk.keep hb y1 (by simp)
  replace hh := hh.keep y1 (by simp)
  replace ha := ha.keep y1 (by simp) (by simp)
  replace hM := hM.keep y1 (by simp)
  generalize _root_.Go.Proofs.Ytlmcfclonncgbaa.give own w.heap.size F = o1 at *
  obtain ⟨W1, hW1⟩ : ∃ W1, w.alloc (.cells #[.int .i64 0, .string { data := #[] }, .int .i64 0, .int .u64 0, .int .u64 0, .slice none 0 0] 25) = W1 := ⟨_, rfl⟩
  change Blk o1 _ (w.alloc (.cells #[.int .i64 0, .string { data := #[] }, .int .i64 0, .int .u64 0, .int .u64 0, .slice none 0 0] 25)) _ _ _ at kZ
  change Blk o1 _ (w.alloc (.cells #[.int .i64 0, .string { data := #[] }, .int .i64 0, .int .u64 0, .int .u64 0, .slice none 0 0] 25)) _ _ _ at hb
  change HP o1 _ (w.alloc (.cells #[.int .i64 0, .string { data := #[] }, .int .i64 0, .int .u64 0, .int .u64 0, .slice none 0 0] 25)) _ _ _ at hh
  change TabP o1 _ _ (w.alloc (.cells #[.int .i64 0, .string { data := #[] }, .int .i64 0, .int .u64 0, .int .u64 0, .slice none 0 0] 25)) _ _ at ha
  change MV o1 _ (w.alloc (.cells #[.int .i64 0, .string { data := #[] }, .int .i64 0, .int .u64 0, .int .u64 0, .slice none 0 0] 25)) _ _ _ _ _ _ _ at hM
  change Ext own o1 _ w (w.alloc (.cells #[.int .i64 0, .string { data := #[] }, .int .i64 0, .int .u64 0, .int .u64 0, .slice none 0 0] 25)) at x1
  rw [hW1] at kZ hb hh ha hM x1
  have hFF1 : ∀ b, b < w.heap.size → own b < F := fun b hb => by have := hFF b hb; omega
  have hF1 : F ∉ [idr, idv] ∧ idr ∉ [F + 1] ∧ idv ∉ [F + 1] ∧ F + 1 ≠ idr ∧ F + 1 ≠ idh ∧ F ∉ [F + 1] ∧ idr ∉ [F] ∧ idv ∉ [F] ∧ 0 ∉ [F] ∧ ida ∉ [F + 1] ∧ idm ∉ [F + 1] ∧ idh ∉ [F + 1] ∧ F + 2 ≠ idr ∧ F + 2 ≠ idh := by simp; omega
  have HF1 := Lib.hid hF1
  have HF4 := Lib.hid (show idh ∉ [F + 2] ∧ ida ∉ [F + 2] ∧ idm ∉ [F + 2] by simp; omega)
  have HF5 := Lib.hid (show F ∉ [idr, idv, F + 3, F + 4] ∧ idr ≠ F + 3 ∧ idv ≠ F + 3 by simp; omega)
  have HFV := Lib.hid (show idv ∉ [F + 2] by simp; omega)
  have HF7 := Lib.hid (show F + 4 ∉ [F + 3] ∧ 0 ∉ [idr, idv] ∧ idr ∉ [F + 3] ∧ idr ∉ [F + 4] ∧ idv ∉ [F + 3] ∧ idv ∉ [F + 4] by have := hids.r0; have := hids.v0; simp; omega)
  have HF6 := Lib.hid (show F + 2 ∉ [idr, idv, F + 3, F + 4] ∧ idh ∉ [idr, idv, F + 3, F + 4] ∧ ida ∉ [idr, idv, F + 3, F + 4] ∧ idm ∉ [idr, idv, F + 3, F + 4] ∧ F + 4 ∉ [idr, idv] ∧ F + 3 ∉ [idr, idv] by have := hids.rh; have := hids.ra; have := hids.rm; have := hids.vh; have := hids.va; have := hids.vm; simp; omega)
  have HFF := Lib.hid hFF1
  have HB := Lib.hid (And.intro kZ (And.intro x1 (And.intro hM (And.intro hb (And.intro ha hh)))))
  have HR := Lib.hid (And.intro hc0 (And.intro hc1 (And.intro hids (And.intro hl0 (And.intro hll (And.intro hLL (And.intro hn hP)))))))
  have HW := Lib.hid (dwords_any o1 idr idh (F + 1) W1 r ph pa pm n 1 most D l hb hh hc0 hc1 (by decide) (by decide) hll (by omega) (by omega))
  have HHF := Lib.hid hf
  obtain ⟨G, hG⟩ : ∃ G, compG l L f D n P = G := ⟨_, rfl⟩
  rw [hG]
  unfold compG at hG
  clear hF1 hFF1 hFF hF hF0 kZ x1 hM hb ha hh y1 hc0 hc1 hl0 hll hLL hn hP hids hf
  by_cases hv : (D / 8).toNat + 1 ≤ l.length
  · obtain ⟨y0, hy0⟩ : ∃ y, l.getD ((D / 8).toNat + 0) 0 = y := ⟨_, rfl⟩
    have hy : l.getD (D / 8).toNat 0 = y0 := hy0
    by_cases h6 : y0 % 8 = 6
    · obtain ⟨A, hA⟩ : ∃ A, y0 / 8 / 256 = A := ⟨_, rfl⟩
      have hyr : 0 ≤ y0 ∧ y0 < 18446744073709551616 := by
        rw [← hy]; simp only [List.getD, List.getElem?_eq_getElem (show (D / 8).toNat < l.length by omega), Option.getD_some]
        exact HR.out.2.2.2.1 _ (List.getElem_mem _)
      obtain ⟨N, hN⟩ : ∃ N : Nat, y0 / 8 % 256 = N := ⟨(y0 / 8 % 256).toNat, by omega⟩
      have hpa : ∀ w, Calls Try.prog 146 #[.int .u64 y0] w fun e w' => e = .returned (.tuple #[.int .i64 A, .int .i64 N]) ∧ w' = w := fun w => by
        have z := parts_any y0 w hyr.1 hyr.2
        unfold partsA partsN at z
        rw [if_pos h6, if_pos h6, hA, hN] at z
        exact z
      have hA0 : 0 ≤ A ∧ A < 18446744073709551616 ∧ N ≤ 255 := by omega
      have hww : ∀ (o : Nat → Nat) (q : World), RB o idr q r ph pa pm n → HP o idh q ph most l → Calls Try.prog 131 #[.pointer (some ⟨r, 0, none⟩), .int .u64 D, .int .i64 (1 + (N : Int))] q (Does o [F + 2] q fun own' e w' => WordsEnd own' (F + 2) w' l (D / 8).toNat (1 + N) e) := fun o q b h => by
        have z := dwords_any o idr idh (F + 2) q r ph pa pm n (1 + N) most D l b h HR.out.1 HR.out.2.1 (by omega) (by omega) HR.out.2.2.2.2.1 HF1.out.2.2.2.2.2.2.2.2.2.2.2.2.1 HF1.out.2.2.2.2.2.2.2.2.2.2.2.2.2
        rw [show ((1 + N : Nat) : Int) = 1 + (N : Int) by push_cast; rfl] at z
        exact z
      have hwu : IntKind.u64.wrap A = A := by rw [wrap_u64]; omega
      have hwn : IntKind.i64.wrap (1 + (N : Int)) = 1 + (N : Int) := by rw [IntKind.wrap_i64]; omega
      have htg : (y0 % 8 == 6) = true := by simpa using h6
      have HPA := Lib.hid hpa
      have HA := Lib.hid hA0
      have HWW := Lib.hid hww
      have HV := Lib.hid (And.intro hv hy0)
      by_cases his : A < L.length
      · have HIS := Lib.hid his
        by_cases hws : (D / 8).toNat + (1 + N) ≤ l.length
        · have HWS := Lib.hid hws
          by_cases hn1 : N < 1
          · have hno : compOk l L (D / 8).toNat = false := by
              unfold compOk
              rw [hy, hN, show decide (1 ≤ (N : Int)) = false from decide_eq_false (by omega)]
              simp
            rw [hno, if_neg (by simp)] at hG
            subst hG
            obtain rfl : N = 0 := by omega
            clear hno his hv hy hy0 h6 hA hN hyr hpa hA0 hww hws hn1
            go_enter Try.func128, Try.ntmps128
            go_wp2_with (first
              | (go_at_call 131; refine Calls.mono (HW2 (w9.drewN n10) (hb9.keep ((Ext.refl own9 [] w9).drewN n10) (by simp)) (hh9.keep ((Ext.refl own9 [] w9).drewN n10) (by simp))) ?_; rintro e w11 ⟨own11, x11, hq⟩; unfold WordsEnd at hq; rw [if_pos HWS.out] at hq; obtain ⟨sl2, rfl, hr11⟩ := hq; have x0 := (Ext.refl own9 [] w9).drewN n10; have kZ11 := (kZ9.keep x0 (by simp)).keep x11 (by simp); have x511 : Ext own own11 [idr, idv] w w11 := (by have z := ((x59.mono (jds := [idr, idv, F + 2]) (by intro i hi; simp only [List.mem_cons, List.not_mem_nil, or_false] at hi ⊢; omega)).drewN n10).trans (x11.mono (jds := [idr, idv, F + 2]) (by simp)); exact ⟨z.os, z.tape, z.output, z.size, z.own, fun b hb hn => z.block b hb (by have := HFF.out b hb; simp at hn ⊢; omega)⟩); have hb11 : RB own11 idr w11 r ph pa pm n := Blk.keep (Blk.keep hb9 x0 (by simp)) x11 (by simpa using Ne.symm HF1.out.2.2.2.2.2.2.2.2.2.2.2.2.1); have hM11 : RM own11 idv w11 pm (numV P 0) := (hM9.keep x0 (by simp)).keep x11 HFV.out; have b0 := kZ11.cell 0 rfl; have b1 := kZ11.cell 1 rfl; have b2 := kZ11.cell 2 rfl; have b3 := kZ11.cell 3 rfl; have b4 := kZ11.cell 4 rfl; have b5 := kZ11.cell 5 rfl; have bf0 := kZ11.free 0; have bf1 := kZ11.free 1; have bf2 := kZ11.free 2; have bf3 := kZ11.free 3; have bf4 := kZ11.free 4; have bf5 := kZ11.free 5)
              | (go_at_call 131; refine Calls.mono HW.out ?_; rintro e w9 ⟨own9, x9, hq⟩; unfold WordsEnd at hq; rw [if_pos HV.out.1] at hq; obtain ⟨sl, rfl, hr9⟩ := hq; obtain ⟨g, cp, rfl, _⟩ := hr9.form_pos (by decide); have q0 : w9.cell? ⟨g, 0, none⟩ = some (.int .u64 y0) := hr9.cell 0 (by rw [List.getElem?_map, cellsAt_get (by decide) HV.out.1, HV.out.2]; rfl); have kZ9 := HB.out.1.keep x9 HF1.out.2.2.2.2.2.1; have x59 : Ext own own9 [idr, idv] w w9 := (by have z := (HB.out.2.1.mono (jds := [idr, idv, F + 1]) (by intro i hi; simp only [List.mem_cons, List.not_mem_nil, or_false] at hi ⊢; omega)).trans (x9.mono (jds := [idr, idv, F + 1]) (by simp)); exact ⟨z.os, z.tape, z.output, z.size, z.own, fun b hb hn => z.block b hb (by have := HFF.out b hb; simp at hn ⊢; omega)⟩); have hb9 : RB own9 idr w9 r ph pa pm n := Blk.keep HB.out.2.2.2.1 x9 HF1.out.2.1; have hM9 : RM own9 idv w9 pm (numV P 0) := HB.out.2.2.1.keep x9 HF1.out.2.2.1; have ha9 : TabP own9 ida idm w9 pa L := HB.out.2.2.2.2.1.keep x9 HF1.out.2.2.2.2.2.2.2.2.2.1 HF1.out.2.2.2.2.2.2.2.2.2.2.1; have hh9 : HP own9 idh w9 ph most l := HB.out.2.2.2.2.2.keep x9 HF1.out.2.2.2.2.2.2.2.2.2.2.2.1; have HW2 := HWW.out own9)
              | (go_at_call 126; refine (tag_any y0 _).mono ?_; rintro e w10 ⟨rfl, hw10⟩; rw [hw10]; clear hw10)
              | (go_at_call 146; refine (HPA.out _).mono ?_; rintro e w10 ⟨rfl, hw10⟩; rw [hw10]; clear hw10)
              | (go_at_call 129; refine Calls.mono (dname_in own9 idr ida idm w9 r ph pa pm n A L hb9 ha9 HA.out.1 HIS.out HR.out.2.2.2.2.2.1) ?_; rintro e w10 ⟨rfl, n10, rfl⟩))
            have HE := Lib.hid (store_resI (v0 := .int .i64 0) (v1 := .string { data := #[] }) (v2 := .int .i64 0) (v3 := .int .u64 0) (v4 := .int .u64 0) (v5 := .slice none 0 0) x511 (Nat.le_refl _) kZ11)
            (try simp only [Exit.inBlock, Exit.then])
            refine bodyPost_ret (v := .tuple #[.agg #[.int .i64 0, .string ByteArray.empty, .int .i64 0, .int .u64 0, .int .u64 0, .slice none 0 0], .int .i64 2]) ?_ rfl ?_
            · rw [results_cell_tmp rfl]
              have kk := HE.out.2.2
              have z0 := kk.cell 0 rfl
              have z1 := kk.cell 1 rfl
              have z2 := kk.cell 2 rfl
              have z3 := kk.cell 3 rfl
              have z4 := kk.cell 4 rfl
              have z5 := kk.cell 5 rfl
              go_simp
              try rfl
            · exact ⟨own11, HE.out.1, GetEnd.bad (Blk.keep hb11 HE.out.2.1 HF1.out.2.2.2.2.2.2.1) (hM11.keep HE.out.2.1 HF1.out.2.2.2.2.2.2.2.1) (by decide)⟩
          · by_cases hn20 : 20 < N
            · have hno : compOk l L (D / 8).toNat = false := by
                unfold compOk
                rw [hy, hN, show decide ((N : Int) ≤ 20) = false from decide_eq_false (by omega)]
                simp
              rw [hno, if_neg (by simp)] at hG
              subst hG
              have hi1 : 1 ≤ (N : Int) := by omega
              have hi2 : 20 < (N : Int) := by omega
              clear hno his hv hy hy0 h6 hA hN hyr hpa hA0 hww hws hn1 hn20
              go_enter Try.func128, Try.ntmps128
              go_wp2_with (first
                | (go_at_call 131; refine Calls.mono (HW2 (w9.drewN n10) (hb9.keep ((Ext.refl own9 [] w9).drewN n10) (by simp)) (hh9.keep ((Ext.refl own9 [] w9).drewN n10) (by simp))) ?_; rintro e w11 ⟨own11, x11, hq⟩; unfold WordsEnd at hq; rw [if_pos HWS.out] at hq; obtain ⟨sl2, rfl, hr11⟩ := hq; have x0 := (Ext.refl own9 [] w9).drewN n10; have kZ11 := (kZ9.keep x0 (by simp)).keep x11 (by simp); have x511 : Ext own own11 [idr, idv] w w11 := (by have z := ((x59.mono (jds := [idr, idv, F + 2]) (by intro i hi; simp only [List.mem_cons, List.not_mem_nil, or_false] at hi ⊢; omega)).drewN n10).trans (x11.mono (jds := [idr, idv, F + 2]) (by simp)); exact ⟨z.os, z.tape, z.output, z.size, z.own, fun b hb hn => z.block b hb (by have := HFF.out b hb; simp at hn ⊢; omega)⟩); have hb11 : RB own11 idr w11 r ph pa pm n := Blk.keep (Blk.keep hb9 x0 (by simp)) x11 (by simpa using Ne.symm HF1.out.2.2.2.2.2.2.2.2.2.2.2.2.1); have hM11 : RM own11 idv w11 pm (numV P 0) := (hM9.keep x0 (by simp)).keep x11 HFV.out; have b0 := kZ11.cell 0 rfl; have b1 := kZ11.cell 1 rfl; have b2 := kZ11.cell 2 rfl; have b3 := kZ11.cell 3 rfl; have b4 := kZ11.cell 4 rfl; have b5 := kZ11.cell 5 rfl; have bf0 := kZ11.free 0; have bf1 := kZ11.free 1; have bf2 := kZ11.free 2; have bf3 := kZ11.free 3; have bf4 := kZ11.free 4; have bf5 := kZ11.free 5)
                | (go_at_call 131; refine Calls.mono HW.out ?_; rintro e w9 ⟨own9, x9, hq⟩; unfold WordsEnd at hq; rw [if_pos HV.out.1] at hq; obtain ⟨sl, rfl, hr9⟩ := hq; obtain ⟨g, cp, rfl, _⟩ := hr9.form_pos (by decide); have q0 : w9.cell? ⟨g, 0, none⟩ = some (.int .u64 y0) := hr9.cell 0 (by rw [List.getElem?_map, cellsAt_get (by decide) HV.out.1, HV.out.2]; rfl); have kZ9 := HB.out.1.keep x9 HF1.out.2.2.2.2.2.1; have x59 : Ext own own9 [idr, idv] w w9 := (by have z := (HB.out.2.1.mono (jds := [idr, idv, F + 1]) (by intro i hi; simp only [List.mem_cons, List.not_mem_nil, or_false] at hi ⊢; omega)).trans (x9.mono (jds := [idr, idv, F + 1]) (by simp)); exact ⟨z.os, z.tape, z.output, z.size, z.own, fun b hb hn => z.block b hb (by have := HFF.out b hb; simp at hn ⊢; omega)⟩); have hb9 : RB own9 idr w9 r ph pa pm n := Blk.keep HB.out.2.2.2.1 x9 HF1.out.2.1; have hM9 : RM own9 idv w9 pm (numV P 0) := HB.out.2.2.1.keep x9 HF1.out.2.2.1; have ha9 : TabP own9 ida idm w9 pa L := HB.out.2.2.2.2.1.keep x9 HF1.out.2.2.2.2.2.2.2.2.2.1 HF1.out.2.2.2.2.2.2.2.2.2.2.1; have hh9 : HP own9 idh w9 ph most l := HB.out.2.2.2.2.2.keep x9 HF1.out.2.2.2.2.2.2.2.2.2.2.2.1; have HW2 := HWW.out own9)
                | (go_at_call 126; refine (tag_any y0 _).mono ?_; rintro e w10 ⟨rfl, hw10⟩; rw [hw10]; clear hw10)
                | (go_at_call 146; refine (HPA.out _).mono ?_; rintro e w10 ⟨rfl, hw10⟩; rw [hw10]; clear hw10)
                | (go_at_call 129; refine Calls.mono (dname_in own9 idr ida idm w9 r ph pa pm n A L hb9 ha9 HA.out.1 HIS.out HR.out.2.2.2.2.2.1) ?_; rintro e w10 ⟨rfl, n10, rfl⟩))
              have HE := Lib.hid (store_resI (v0 := .int .i64 0) (v1 := .string { data := #[] }) (v2 := .int .i64 0) (v3 := .int .u64 0) (v4 := .int .u64 0) (v5 := .slice none 0 0) x511 (Nat.le_refl _) kZ11)
              (try simp only [Exit.inBlock, Exit.then])
              refine bodyPost_ret (v := .tuple #[.agg #[.int .i64 0, .string ByteArray.empty, .int .i64 0, .int .u64 0, .int .u64 0, .slice none 0 0], .int .i64 2]) ?_ rfl ?_
              · rw [results_cell_tmp rfl]
                have kk := HE.out.2.2
                have z0 := kk.cell 0 rfl
                have z1 := kk.cell 1 rfl
                have z2 := kk.cell 2 rfl
                have z3 := kk.cell 3 rfl
                have z4 := kk.cell 4 rfl
                have z5 := kk.cell 5 rfl
                go_simp
                try rfl
              · exact ⟨own11, HE.out.1, GetEnd.bad (Blk.keep hb11 HE.out.2.1 HF1.out.2.2.2.2.2.2.1) (hM11.keep HE.out.2.1 HF1.out.2.2.2.2.2.2.2.1) (by decide)⟩
            · have hok : compOk l L (D / 8).toNat = true := by
                unfold compOk
                simp only [hy, hA, hN, Bool.and_eq_true, decide_eq_true_eq]
                refine ⟨⟨⟨⟨⟨by omega, h6⟩, his⟩, by omega⟩, by omega⟩, by omega⟩
              rw [hok, if_pos rfl, hy, hA, hN] at hG
              have hi1 : 1 ≤ (N : Int) := by omega
              have hi2 : (N : Int) ≤ 20 := by omega
              obtain ⟨sn0, hsn0⟩ : ∃ s, L.getD A.toNat ByteArray.empty = s := ⟨_, rfl⟩
              have hsz0 : sn0.size ≤ maxLen := by
                have hs := HB.out.2.2.2.2.1.names.short (L.getD A.toNat ByteArray.empty) (by simp only [List.getD, List.getElem?_eq_getElem (show A.toNat < L.length by omega), Option.getD_some]; exact List.getElem_mem _)
                rw [hsn0] at hs
                unfold maxLen; omega
              rw [hsn0, show ((N : Int)).toNat = N by omega] at hG
              have HSN := Lib.hid (And.intro hsn0 hsz0)
              have HGG := Lib.hid hG
              clear hsn0 hsz0
              clear hok his hv hy hy0 h6 hA hN hyr hpa hA0 hww hws hn1 hn20 hG
              go_enter Try.func128, Try.ntmps128
              go_wp2_with (first
                | (go_at_call 131; refine Calls.mono (HW2 (w9.drewN n10) (hb9.keep ((Ext.refl own9 [] w9).drewN n10) (by simp)) (hh9.keep ((Ext.refl own9 [] w9).drewN n10) (by simp))) ?_; rintro e w11 ⟨own11, x11, hq⟩; unfold WordsEnd at hq; rw [if_pos HWS.out] at hq; obtain ⟨sl2, rfl, hr11⟩ := hq; obtain ⟨g2, cp2, rfl, hcp2⟩ := hr11.form_pos (by omega); have x0 := (Ext.refl own9 [] w9).drewN n10; have kZ11 := (kZ9.keep x0 (by simp)).keep x11 (by simp); have x511 : Ext own own11 [idr, idv] w w11 := (by have z := ((x59.mono (jds := [idr, idv, F + 2]) (by intro i hi; simp only [List.mem_cons, List.not_mem_nil, or_false] at hi ⊢; omega)).drewN n10).trans (x11.mono (jds := [idr, idv, F + 2]) (by simp)); exact ⟨z.os, z.tape, z.output, z.size, z.own, fun b hb hn => z.block b hb (by have := HFF.out b hb; simp at hn ⊢; omega)⟩); have hb11 : RB own11 idr w11 r ph pa pm n := Blk.keep (Blk.keep hb9 x0 (by simp)) x11 (by simpa using Ne.symm HF1.out.2.2.2.2.2.2.2.2.2.2.2.2.1); have hM11 : RM own11 idv w11 pm (numV P 0) := (hM9.keep x0 (by simp)).keep x11 HFV.out; have b0 := kZ11.cell 0 rfl; have b1 := kZ11.cell 1 rfl; have b2 := kZ11.cell 2 rfl; have b3 := kZ11.cell 3 rfl; have b4 := kZ11.cell 4 rfl; have b5 := kZ11.cell 5 rfl; have bf0 := kZ11.free 0; have bf1 := kZ11.free 1; have bf2 := kZ11.free 2; have bf3 := kZ11.free 3; have bf4 := kZ11.free 4; have bf5 := kZ11.free 5)
                | (go_at_call 131; refine Calls.mono HW.out ?_; rintro e w9 ⟨own9, x9, hq⟩; unfold WordsEnd at hq; rw [if_pos HV.out.1] at hq; obtain ⟨sl, rfl, hr9⟩ := hq; obtain ⟨g, cp, rfl, _⟩ := hr9.form_pos (by decide); have q0 : w9.cell? ⟨g, 0, none⟩ = some (.int .u64 y0) := hr9.cell 0 (by rw [List.getElem?_map, cellsAt_get (by decide) HV.out.1, HV.out.2]; rfl); have kZ9 := HB.out.1.keep x9 HF1.out.2.2.2.2.2.1; have x59 : Ext own own9 [idr, idv] w w9 := (by have z := (HB.out.2.1.mono (jds := [idr, idv, F + 1]) (by intro i hi; simp only [List.mem_cons, List.not_mem_nil, or_false] at hi ⊢; omega)).trans (x9.mono (jds := [idr, idv, F + 1]) (by simp)); exact ⟨z.os, z.tape, z.output, z.size, z.own, fun b hb hn => z.block b hb (by have := HFF.out b hb; simp at hn ⊢; omega)⟩); have hb9 : RB own9 idr w9 r ph pa pm n := Blk.keep HB.out.2.2.2.1 x9 HF1.out.2.1; have hM9 : RM own9 idv w9 pm (numV P 0) := HB.out.2.2.1.keep x9 HF1.out.2.2.1; have ha9 : TabP own9 ida idm w9 pa L := HB.out.2.2.2.2.1.keep x9 HF1.out.2.2.2.2.2.2.2.2.2.1 HF1.out.2.2.2.2.2.2.2.2.2.2.1; have hh9 : HP own9 idh w9 ph most l := HB.out.2.2.2.2.2.keep x9 HF1.out.2.2.2.2.2.2.2.2.2.2.2.1; have HW2 := HWW.out own9)
                | (go_at_call 126; refine (tag_any y0 _).mono ?_; rintro e w10 ⟨rfl, hw10⟩; rw [hw10]; clear hw10)
                | (go_at_call 146; refine (HPA.out _).mono ?_; rintro e w10 ⟨rfl, hw10⟩; rw [hw10]; clear hw10)
                | (go_at_call 129; refine Calls.mono (by have z := dname_in own9 idr ida idm w9 r ph pa pm n A L hb9 ha9 HA.out.1 HIS.out HR.out.2.2.2.2.2.1; rw [HSN.out.1] at z; exact z) ?_; rintro e w10 ⟨rfl, n10, rfl⟩))
              obtain ⟨x12, kO, y12⟩ := x511.box [.int .i64 5, .string sn0, .int .i64 0, .int .u64 0, .int .u64 0, .slice none 0 0] 25 (F + 4)
              have hh11 : HP own11 idh w11 ph most l := (hh9.keep ((Ext.refl own9 [] w9).drewN n10) (by simp)).keep x11 HF4.out.1
              have ha11 : TabP own11 ida idm w11 pa L := (ha9.keep ((Ext.refl own9 [] w9).drewN n10) (by simp) (by simp)).keep x11 HF4.out.2.1 HF4.out.2.2
              have kZ12 := kZ11.keep y12 (by simp)
              have hb12 : RB _ idr _ r ph pa pm n := Blk.keep hb11 y12 (by simp)
              have hM12 := hM11.keep y12 (by simp)
              have hr12 := hr11.keep y12 (by simp)
              have hh12 := hh11.keep y12 (by simp)
              have ha12 := ha11.keep y12 (by simp) (by simp)
              generalize _root_.Go.Proofs.Ytlmcfclonncgbaa.give own11 w11.heap.size (F + 4) = o12 at *
              obtain ⟨W12, hW12⟩ : ∃ W, w11.alloc (.cells #[.int .i64 5, .string sn0, .int .i64 0, .int .u64 0, .int .u64 0, .slice none 0 0] 25) = W := ⟨_, rfl⟩
              change Blk o12 _ (w11.alloc (.cells #[.int .i64 5, .string sn0, .int .i64 0, .int .u64 0, .int .u64 0, .slice none 0 0] 25)) _ _ _ at kO
              change Blk o12 _ (w11.alloc (.cells #[.int .i64 5, .string sn0, .int .i64 0, .int .u64 0, .int .u64 0, .slice none 0 0] 25)) _ _ _ at kZ12
              change Ext own o12 _ w (w11.alloc (.cells #[.int .i64 5, .string sn0, .int .i64 0, .int .u64 0, .int .u64 0, .slice none 0 0] 25)) at x12
              change MV o12 _ (w11.alloc (.cells #[.int .i64 5, .string sn0, .int .i64 0, .int .u64 0, .int .u64 0, .slice none 0 0] 25)) _ _ _ _ _ _ _ at hM12
              change RB o12 _ (w11.alloc (.cells #[.int .i64 5, .string sn0, .int .i64 0, .int .u64 0, .int .u64 0, .slice none 0 0] 25)) _ _ _ _ _ at hb12
              change Row o12 _ (w11.alloc (.cells #[.int .i64 5, .string sn0, .int .i64 0, .int .u64 0, .int .u64 0, .slice none 0 0] 25)) _ _ _ _ _ at hr12
              change HP o12 _ (w11.alloc (.cells #[.int .i64 5, .string sn0, .int .i64 0, .int .u64 0, .int .u64 0, .slice none 0 0] 25)) _ _ _ at hh12
              change TabP o12 _ _ (w11.alloc (.cells #[.int .i64 5, .string sn0, .int .i64 0, .int .u64 0, .int .u64 0, .slice none 0 0] 25)) _ _ at ha12
              rw [hW12] at kO kZ12 x12 hM12 hb12 hr12 hh12 ha12 ⊢
              have H12 := Lib.hid (And.intro kO (And.intro kZ12 (And.intro x12 (And.intro hM12 (And.intro hb12 (And.intro hr12 (And.intro hh12 ha12)))))))
              clear kO kZ12 x12 hM12 hb12 hr12 hh12 ha12 y12 kZ11 hb11 hM11 hr11 x511 x11 hh11 ha11 HW2 hh9 ha9 hb9 hM9 kZ9 x59 x9 hr9
              have hln : N ≤ 20 := by omega
              obtain ⟨CS, hCS⟩ : ∃ C, cellsAt l ((D / 8).toNat + 1) N = C := ⟨_, rfl⟩
              have hCl : CS.length = N := by rw [← hCS]; exact cellsAt_length (by have := HWS.out; omega)
              have hCg : ∀ j, j < N → (cellsAt l (D / 8).toNat (1 + N))[1 + j]? = CS[j]? := fun j hj => by
                rw [← hCS, cellsAt_get (by omega) HWS.out, cellsAt_get hj (by have := HWS.out; omega)]
                congr 2; omega
              have hCp : ∀ x ∈ CS, 0 ≤ x ∧ x < 18446744073709551616 := fun x hx => by
                rw [← hCS] at hx
                exact HR.out.2.2.2.1 x (List.mem_of_mem_drop (List.mem_of_mem_take hx))
              have hGG := HGG.out
              rw [hCS] at hGG
              have HCC := Lib.hid (And.intro hCl (And.intro hCg (And.intro hCp hGG)))
              clear hCS hCl hCg hCp hGG HGG
              go_loopw [78] (fun u wr => ∃ (lt : List (Tm × Value)) (v : Value) (own' : Nat → Nat) (n' : Nat) (P' : List Int) (cts : List CT), u = .int .i64 lt.length ∧ lt.length ≤ N ∧ Ext o12 own' [idr, idv, F + 3, F + 4] W12 wr ∧ Blk own' (F + 4) wr w11.heap.size [.int .i64 5, .string sn0, .int .i64 0, .int .u64 0, .int .u64 0, v] 25 ∧ Row own' (F + 3) wr 25 6 v lt.length (termCells lt) ∧ (∀ z ∈ lt, TmS own' wr z.1 z.2) ∧
                RB own' idr wr r ph pa pm n' ∧ RM own' idv wr pm (numV P' 0) ∧ n' ≤ 2000 ∧ P'.length ≤ 998000 + n' ∧ lt.map (·.1) = cts.map un ∧ getArgs f CS n P = ((getArgs f (CS.drop lt.length) n' P').1, cts ++ (getArgs f (CS.drop lt.length) n' P').2.1, (getArgs f (CS.drop lt.length) n' P').2.2)) (fun u _ => N - (intOf u).toNat)
              case atStart => exact ⟨[], _, o12, n, P, [], rfl, Nat.zero_le _, Ext.refl _ _ _, H12.out.1, Row.nil _ _ _ _ _, by simp, H12.out.2.2.2.2.1, H12.out.2.2.2.1, HR.out.2.2.2.2.2.2.1, HR.out.2.2.2.2.2.2.2, rfl, by simp⟩
              case round =>
                obtain ⟨lt, v, own', n', P', cts, rfl, hj, x, kO, hr, hTl, hb', hM', hn', hP', hmap, hga⟩ := hrel
                by_cases hlt : lt.length < N
                · obtain ⟨c, hcs⟩ : ∃ c, CS[lt.length]? = some c := ⟨_, List.getElem?_eq_getElem (by rw [HCC.out.1]; exact hlt)⟩
                  have hdrop : CS.drop lt.length = c :: CS.drop (lt.length + 1) := by
                    have h' : lt.length < CS.length := by rw [HCC.out.1]; exact hlt
                    rw [List.getElem?_eq_getElem h'] at hcs
                    rw [List.drop_eq_getElem_cons h', Option.some.inj hcs]
                  have hcr := HCC.out.2.2.1 c (List.mem_of_getElem? hcs)
                  have hr2 := H12.out.2.2.2.2.2.1.keep x HF6.out.1
                  have q2 : wr.cell? ⟨g2, 1 + lt.length, none⟩ = some (.int .u64 c) := hr2.cell (1 + lt.length) (by rw [List.getElem?_map, HCC.out.2.1 _ hlt, hcs]; rfl)
                  have hh2 := H12.out.2.2.2.2.2.2.1.keep x HF6.out.2.1
                  have ha2 := H12.out.2.2.2.2.2.2.2.keep x HF6.out.2.2.1 HF6.out.2.2.2.1
                  have hcall := HHF.out own' wr n' P' c hb' hh2 ha2 hM' hcr.1 hcr.2 hn' hP'
                  obtain ⟨R, hR⟩ : ∃ R, f c n' P' = R := ⟨_, rfl⟩
                  rw [hR] at hcall
                  rw [hdrop] at hga
                  simp only [getArgs, hR] at hga
                  have HCL := Lib.hid hcall
                  have kZ2 := H12.out.2.1.keep x HF5.out.1
                  have X2 := (H12.out.2.2.1.mono (jds := [idr, idv, F + 3, F + 4]) (by intro i hi; simp only [List.mem_cons, List.not_mem_nil, or_false] at hi ⊢; omega)).trans x
                  have HX := Lib.hid (And.intro X2 kZ2)
                  have hsub : ∀ i ∈ [idr, idv], i ∈ [idr, idv, F + 3, F + 4] := by intro i hi; simp only [List.mem_cons, List.not_mem_nil, or_false] at hi ⊢; omega
                  have HSB := Lib.hid hsub
                  by_cases hR0 : R.1 = 0
                  · rw [if_neg (by simpa using hR0)] at hga
                    have HGA := Lib.hid hga
                    obtain ⟨A1, cp1, rfl, hcp⟩ := hr.form
                    have hl72 : (lt.length + 1) * 72 ≤ 140737488355328 := by omega
                    have HI := Lib.hid (And.intro x (And.intro hmap (And.intro hTl (And.intro kO hr))))
                    have HR0 := Lib.hid hR0
                    clear hga hR hcall hdrop hcs hcr hr2 hh2 ha2 kZ2 X2 hsub x hmap hTl kO hr hb' hM' hn' hP'
                    go_wp2_with (first
                      | (go_at_call 92; refine Calls.mono HCL.out ?_; rintro e w3 ⟨own3, x3, hE, hbd⟩; obtain ⟨hb3, hM3, hq⟩ := hE; rw [if_pos HR0.out] at hq; obtain ⟨A3, l3, cp3, hee, hT3⟩ := hq; obtain rfl : e = .returned (.tuple #[.agg #[.int .i64 (un R.2.1).kind, .string (un R.2.1).name, .int .i64 (un R.2.1).int, .int .u64 (un R.2.1).re, .int .u64 (un R.2.1).im, .slice A3 l3 cp3], .int .i64 0]) := hee; have kO3 := HI.out.2.2.2.1.keep x3 HF6.out.2.2.2.2.1; have hr3 := HI.out.2.2.2.2.keep x3 HF6.out.2.2.2.2.2; obtain ⟨_, kE, y4⟩ := (Ext.refl own3 [] w3).box [.int .i64 (un R.2.1).kind, .string (un R.2.1).name, .int .i64 (un R.2.1).int, .int .u64 (un R.2.1).re, .int .u64 (un R.2.1).im, .slice A3 l3 cp3] 25 (F + 5); have kO4 := kO3.keep y4 (by simp); have hr4 := hr3.keep y4 (by simp); have o5 : (w3.alloc (.cells #[.int .i64 (un R.2.1).kind, .string (un R.2.1).name, .int .i64 (un R.2.1).int, .int .u64 (un R.2.1).re, .int .u64 (un R.2.1).im, .slice A3 l3 cp3] 25)).cell? ⟨w11.heap.size, 5, none⟩ = some (.slice A1 lt.length cp1) := kO4.cell 5 rfl; have of5 : (w3.alloc (.cells #[.int .i64 (un R.2.1).kind, .string (un R.2.1).name, .int .i64 (un R.2.1).int, .int .u64 (un R.2.1).re, .int .u64 (un R.2.1).im, .slice A3 l3 cp3] 25)).frozen? ⟨w11.heap.size, 5, none⟩ = false := kO4.free 5; have e0 : (w3.alloc (.cells #[.int .i64 (un R.2.1).kind, .string (un R.2.1).name, .int .i64 (un R.2.1).int, .int .u64 (un R.2.1).re, .int .u64 (un R.2.1).im, .slice A3 l3 cp3] 25)).cell? ⟨w3.heap.size, 0, none⟩ = some (.int .i64 (un R.2.1).kind) := kE.cell 0 rfl; have e1 : (w3.alloc (.cells #[.int .i64 (un R.2.1).kind, .string (un R.2.1).name, .int .i64 (un R.2.1).int, .int .u64 (un R.2.1).re, .int .u64 (un R.2.1).im, .slice A3 l3 cp3] 25)).cell? ⟨w3.heap.size, 1, none⟩ = some (.string (un R.2.1).name) := kE.cell 1 rfl; have e2 : (w3.alloc (.cells #[.int .i64 (un R.2.1).kind, .string (un R.2.1).name, .int .i64 (un R.2.1).int, .int .u64 (un R.2.1).re, .int .u64 (un R.2.1).im, .slice A3 l3 cp3] 25)).cell? ⟨w3.heap.size, 2, none⟩ = some (.int .i64 (un R.2.1).int) := kE.cell 2 rfl; have e3 : (w3.alloc (.cells #[.int .i64 (un R.2.1).kind, .string (un R.2.1).name, .int .i64 (un R.2.1).int, .int .u64 (un R.2.1).re, .int .u64 (un R.2.1).im, .slice A3 l3 cp3] 25)).cell? ⟨w3.heap.size, 3, none⟩ = some (.int .u64 (un R.2.1).re) := kE.cell 3 rfl; have e4 : (w3.alloc (.cells #[.int .i64 (un R.2.1).kind, .string (un R.2.1).name, .int .i64 (un R.2.1).int, .int .u64 (un R.2.1).re, .int .u64 (un R.2.1).im, .slice A3 l3 cp3] 25)).cell? ⟨w3.heap.size, 4, none⟩ = some (.int .u64 (un R.2.1).im) := kE.cell 4 rfl; have e5 : (w3.alloc (.cells #[.int .i64 (un R.2.1).kind, .string (un R.2.1).name, .int .i64 (un R.2.1).int, .int .u64 (un R.2.1).re, .int .u64 (un R.2.1).im, .slice A3 l3 cp3] 25)).cell? ⟨w3.heap.size, 5, none⟩ = some (.slice A3 l3 cp3) := kE.cell 5 rfl)
                      | (at_builtin; refine wpList_append_row rfl _ _ 23 rfl 25 (.agg #[.int .i64 0, .string ByteArray.empty, .int .i64 0, .int .u64 0, .int .u64 0, .slice none 0 0]) 6 72 Try.underlying23 info_term rfl (by decide) (by decide) rfl (by rw [World.size_alloc]; rfl) rfl (cellsT_one (un R.2.1) A3 l3 cp3) hr4 hl72 ?_; intro gg cp6 w6 own6 hr6 x6 _ _; have kO6 := kO4.keep x6 HF7.out.1; have of6 := kO6.free 5; have oc6 := kO6.cell 5 rfl))
                    have hne : Value.ownBlock (.slice (some ⟨gg, 0, none⟩) (lt.length + 1) cp6) ≠ some w11.heap.size := by
                      intro h
                      simp [Value.ownBlock] at h
                      have h1 := hr6.2 gg rfl
                      have h2 := kO6.2
                      rw [h] at h1
                      omega
                    have y7 : Ext own6 own6 [F + 4] w6 (w6.setCell ⟨w11.heap.size, 5, none⟩ (.slice (some ⟨gg, 0, none⟩) (lt.length + 1) cp6)) := (Ext.refl own6 [F + 4] w6).setCell _ _ (fun _ => by show own6 w11.heap.size ∈ _; rw [kO6.2]; simp)
                    have kO7 := Blk.set kO6 5 (.slice (some ⟨gg, 0, none⟩) (lt.length + 1) cp6)
                    have hr7 := hr6.far (p := ⟨w11.heap.size, 5, none⟩) hne (.slice (some ⟨gg, 0, none⟩) (lt.length + 1) cp6)
                    have hTl : ∀ z ∈ lt ++ [(un R.2.1, Value.slice A3 l3 cp3)], TmS own6 (w6.setCell ⟨w11.heap.size, 5, none⟩ (.slice (some ⟨gg, 0, none⟩) (lt.length + 1) cp6)) z.1 z.2 := by
                      intro z hz
                      rcases List.mem_append.1 hz with hz | hz
                      · exact TmS.keep y7 (by simp) z.1 _ (TmS.keep x6 (by simp) z.1 _ (TmS.keep y4 (by simp) z.1 _ (TmS.keep x3 HF7.out.2.1 z.1 _ (HI.out.2.2.1 z hz))))
                      · simp at hz
                        subst hz
                        exact TmS.keep y7 (by simp) _ _ (TmS.keep x6 (by simp) _ _ (TmS.keep y4 (by simp) _ _ hT3))
                    have X7 := (((HI.out.1.trans (x3.mono HSB.out)).trans (y4.mono (by simp))).trans (x6.mono (by simp))).trans (y7.mono (jds := [idr, idv, F + 3, F + 4]) (by simp))
                    have hb7 : RB _ idr _ r ph pa pm R.2.2.1 := Blk.keep (Blk.keep (Blk.keep hb3 y4 (by simp)) x6 HF7.out.2.2.1) y7 HF7.out.2.2.2.1
                    have hM7 : RM _ idv _ pm (numV R.2.2.2 0) := ((hM3.keep y4 (by simp)).keep x6 HF7.out.2.2.2.2.1).keep y7 HF7.out.2.2.2.2.2
                    have e1 : (lt ++ [(un R.2.1, Value.slice A3 l3 cp3)]).length = lt.length + 1 := by simp
                    have e2 : termCells (lt ++ [(un R.2.1, Value.slice A3 l3 cp3)]) = termCells lt ++ cellsT (un R.2.1) (.slice A3 l3 cp3) := by rw [termCells_append]; simp [termCells]
                    have hmap7 : (lt ++ [(un R.2.1, Value.slice A3 l3 cp3)]).map (·.1) = (cts ++ [R.2.1]).map un := by rw [List.map_append, List.map_append, HI.out.2.1]; rfl
                    have hga7 := HGA.out
                    have HF := Lib.hid (And.intro X7 (And.intro kO7 (And.intro hr7 (And.intro hTl (And.intro e1 (And.intro e2 (And.intro hb7 (And.intro hM7 (And.intro hmap7 (And.intro hbd hga7))))))))))
                    clear hTl X7 kO7 hr7 y7 hne hr6 x6 kO6 hb7 hM7 hb3 hM3 hT3 kO3 hr3 kE y4 kO4 hr4 x3 hmap7 hga7 hbd
                    go_wp2_with fail
                    go_roundw
                    case measure => simp [intOf]; omega
                    refine ⟨lt ++ [(un R.2.1, Value.slice A3 l3 cp3)], (.slice (some ⟨gg, 0, none⟩) (lt.length + 1) cp6), _, R.2.2.1, R.2.2.2, cts ++ [R.2.1], by rw [HF.out.2.2.2.2.1]; go_num, by rw [HF.out.2.2.2.2.1]; omega, HF.out.1, HF.out.2.1, ?_, HF.out.2.2.2.1, HF.out.2.2.2.2.2.2.1, HF.out.2.2.2.2.2.2.2.1, HF.out.2.2.2.2.2.2.2.2.2.1.1, HF.out.2.2.2.2.2.2.2.2.2.1.2, HF.out.2.2.2.2.2.2.2.2.1, ?_⟩
                    · rw [HF.out.2.2.2.2.1, HF.out.2.2.2.2.2.1]; exact HF.out.2.2.1
                    · rw [HF.out.2.2.2.2.1, HF.out.2.2.2.2.2.2.2.2.2.2]; simp
                  · rw [if_pos hR0] at hga
                    have hGG := HCC.out.2.2.2
                    rw [hga] at hGG
                    simp only [ne_eq, hR0, not_false_eq_true, if_true] at hGG
                    subst hGG
                    have hRn : (R.1 == 0) = false := by simpa using hR0
                    have HR0 := Lib.hid hR0
                    clear hga hR hcall hR0 hdrop hcs hcr hr2 hh2 ha2 kZ2 X2 hsub x hmap hTl kO hr hb' hM' hn' hP'
                    go_wp2_with (go_at_call 92; refine Calls.mono HCL.out ?_; rintro e w3 ⟨own3, x3, hE, _⟩; obtain ⟨hb3, hM3, hq⟩ := hE; rw [if_neg HR0.out] at hq; obtain rfl := hq; have kZ3 := HX.out.2.keep x3 HF1.out.1; have X3 : Ext own own3 [idr, idv] w w3 := (by have x1 := HX.out.1.trans (x3.mono HSB.out); exact ⟨x1.os, x1.tape, x1.output, x1.size, x1.own, fun b hb hn => x1.block b hb (by have := HFF.out b hb; simp at hn ⊢; omega)⟩); obtain ⟨X4, _, y4⟩ := X3.box [.int .i64 0, .string ByteArray.empty, .int .i64 0, .int .u64 0, .int .u64 0, .slice none 0 0] 25 (F + 5); have kZ4 := kZ3.keep y4 (by simp); change Blk _ _ (w3.alloc (.cells #[.int .i64 0, .string ByteArray.empty, .int .i64 0, .int .u64 0, .int .u64 0, .slice none 0 0] 25)) _ _ _ at kZ4; change Ext own _ _ w (w3.alloc (.cells #[.int .i64 0, .string ByteArray.empty, .int .i64 0, .int .u64 0, .int .u64 0, .slice none 0 0] 25)) at X4; have b0 := kZ4.cell 0 rfl; have b1 := kZ4.cell 1 rfl; have b2 := kZ4.cell 2 rfl; have b3 := kZ4.cell 3 rfl; have b4 := kZ4.cell 4 rfl; have b5 := kZ4.cell 5 rfl; have bf0 := kZ4.free 0; have bf1 := kZ4.free 1; have bf2 := kZ4.free 2; have bf3 := kZ4.free 3; have bf4 := kZ4.free 4; have bf5 := kZ4.free 5)
                    have HE := Lib.hid (store_resI (v0 := .int .i64 0) (v1 := .string { data := #[] }) (v2 := .int .i64 0) (v3 := .int .u64 0) (v4 := .int .u64 0) (v5 := .slice none 0 0) X4 (Nat.le_refl _) kZ4)
                    (try simp only [Exit.inBlock, Exit.then])
                    refine bodyPost_ret (v := .tuple #[.agg #[.int .i64 0, .string ByteArray.empty, .int .i64 0, .int .u64 0, .int .u64 0, .slice none 0 0], .int .i64 R.1]) ?_ rfl ?_
                    · rw [results_cell_tmp rfl]
                      have kk := HE.out.2.2
                      have z0 := kk.cell 0 rfl
                      have z1 := kk.cell 1 rfl
                      have z2 := kk.cell 2 rfl
                      have z3 := kk.cell 3 rfl
                      have z4 := kk.cell 4 rfl
                      have z5 := kk.cell 5 rfl
                      go_simp
                      try rfl
                    · exact ⟨_, HE.out.1, GetEnd.bad (Blk.keep (Blk.keep hb3 y4 (by simp)) HE.out.2.1 HF1.out.2.2.2.2.2.2.1) ((hM3.keep y4 (by simp)).keep HE.out.2.1 HF1.out.2.2.2.2.2.2.2.1) HR0.out⟩
                · have hjN : lt.length = N := by omega
                  subst hjN
                  rw [List.drop_eq_nil_of_le (by rw [HCC.out.1]; exact Nat.le_refl _)] at hga
                  have hGG := HCC.out.2.2.2
                  rw [hga] at hGG
                  simp only [getArgs, List.append_nil, ne_eq, not_true_eq_false, if_false] at hGG
                  subst hGG
                  have k6 := kO
                  obtain ⟨own9, A9, cap9, rfl, hL9, ho9, hx9⟩ := hr.terms hTl
                  have hfin : TmS own9 wr (un (.comp sn0 cts)) (.slice A9 lt.length cap9) := by
                    show TmS own9 wr (.mk 5 sn0 0 0 0 (uns cts)) _
                    rw [uns_map, ← hmap]
                    exact hL9.comp ⟨by decide, by decide, by decide, by decide, HSN.out.2⟩
                  have X9 : Ext own own9 [idr, idv] w wr := by
                    have x0 := (H12.out.2.2.1.mono (jds := [idr, idv, F + 3, F + 4]) (by intro i hi; simp only [List.mem_cons, List.not_mem_nil, or_false] at hi ⊢; omega)).trans x
                    have x1 := hx9 own _ w x0 (fun b hb => by have := HFF.out b hb; omega)
                    exact ⟨x1.os, x1.tape, x1.output, x1.size, x1.own, fun b hb hn => x1.block b hb (by have := HFF.out b hb; simp at hn ⊢; omega)⟩
                  have kZ9 : Blk own9 F wr w.heap.size [.int .i64 0, .string { data := #[] }, .int .i64 0, .int .u64 0, .int .u64 0, .slice none 0 0] 25 := by
                    have z := H12.out.2.1.keep x HF5.out.1
                    exact ⟨z.1, by rw [ho9 _ (by rw [z.2]; omega)]; exact z.2⟩
                  have hb9 : RB own9 idr wr r ph pa pm n' := ⟨hb'.1, by rw [ho9 _ (by rw [hb'.2]; exact HF5.out.2.1)]; exact hb'.2⟩
                  have hM9 : RM own9 idv wr pm (numV P' 0) := by
                    obtain ⟨Dm, ⟨m1, m2⟩, m3⟩ := hM'
                    exact ⟨Dm, ⟨m1, by rw [ho9 _ (by rw [m2]; exact HF5.out.2.2)]; exact m2⟩, m3⟩
                  have f0 := kO.cell 0 rfl
                  have f1 := kO.cell 1 rfl
                  have f2 := kO.cell 2 rfl
                  have f3 := kO.cell 3 rfl
                  have f4 := kO.cell 4 rfl
                  have f5 := kO.cell 5 rfl
                  have b0 := kZ9.cell 0 rfl; have b1 := kZ9.cell 1 rfl; have b2 := kZ9.cell 2 rfl; have b3 := kZ9.cell 3 rfl; have b4 := kZ9.cell 4 rfl; have b5 := kZ9.cell 5 rfl; have bf0 := kZ9.free 0; have bf1 := kZ9.free 1; have bf2 := kZ9.free 2; have bf3 := kZ9.free 3; have bf4 := kZ9.free 4; have bf5 := kZ9.free 5
                  have HE := Lib.hid (store_resI (v0 := .int .i64 5) (v1 := .string sn0) (v2 := .int .i64 0) (v3 := .int .u64 0) (v4 := .int .u64 0) (v5 := .slice A9 lt.length cap9) X9 (Nat.le_refl _) kZ9)
                  have HFI := Lib.hid (And.intro hfin (And.intro hb9 hM9))
                  clear hfin hb9 hM9 X9 kZ9 hL9 ho9 hx9 hga hmap hTl hr x kO k6 hb' hM'
                  go_wp2_with fail
                  (try simp only [Exit.inBlock, Exit.then])
                  refine bodyPost_ret (v := .tuple #[.agg #[.int .i64 5, .string sn0, .int .i64 0, .int .u64 0, .int .u64 0, .slice A9 lt.length cap9], .int .i64 0]) ?_ rfl ?_
                  · rw [results_cell_tmp rfl]
                    have kk := HE.out.2.2
                    have z0 := kk.cell 0 rfl
                    have z1 := kk.cell 1 rfl
                    have z2 := kk.cell 2 rfl
                    have z3 := kk.cell 3 rfl
                    have z4 := kk.cell 4 rfl
                    have z5 := kk.cell 5 rfl
                    go_simp
                    try rfl
                  · exact ⟨own9, HE.out.1, GetEnd.good (c := .comp sn0 cts) (Blk.keep HFI.out.2.1 HE.out.2.1 HF1.out.2.2.2.2.2.2.1) (HFI.out.2.2.keep HE.out.2.1 HF1.out.2.2.2.2.2.2.2.1) (TmS.keep HE.out.2.1 HF1.out.2.2.2.2.2.2.2.2.1 _ _ HFI.out.1)⟩
        · have HWS := Lib.hid hws
          have hno : compOk l L (D / 8).toNat = false := by
            unfold compOk
            rw [hy, hN, show decide ((D / 8).toNat + ((N : Int)).toNat < l.length) = false from decide_eq_false (by omega)]
            simp
          rw [hno, if_neg (by simp)] at hG
          subst hG
          clear hno his hv hy hy0 h6 hA hN hyr hpa hA0 hww hws
          go_enter Try.func128, Try.ntmps128
          go_wp2_with (first
            | (go_at_call 131; refine Calls.mono (HW2 (w9.drewN n10) (hb9.keep ((Ext.refl own9 [] w9).drewN n10) (by simp)) (hh9.keep ((Ext.refl own9 [] w9).drewN n10) (by simp))) ?_; rintro e w11 ⟨own11, x11, hq⟩; unfold WordsEnd at hq; rw [if_neg HWS.out] at hq; obtain rfl := hq; have x0 := (Ext.refl own9 [] w9).drewN n10; have kZ11 := (kZ9.keep x0 (by simp)).keep x11 (by simp); have x511 : Ext own own11 [idr, idv] w w11 := (by have z := ((x59.mono (jds := [idr, idv, F + 2]) (by intro i hi; simp only [List.mem_cons, List.not_mem_nil, or_false] at hi ⊢; omega)).drewN n10).trans (x11.mono (jds := [idr, idv, F + 2]) (by simp)); exact ⟨z.os, z.tape, z.output, z.size, z.own, fun b hb hn => z.block b hb (by have := HFF.out b hb; simp at hn ⊢; omega)⟩); have hb11 : RB own11 idr w11 r ph pa pm n := Blk.keep (Blk.keep hb9 x0 (by simp)) x11 (by simpa using Ne.symm HF1.out.2.2.2.2.2.2.2.2.2.2.2.2.1); have hM11 : RM own11 idv w11 pm (numV P 0) := (hM9.keep x0 (by simp)).keep x11 HFV.out; have b0 := kZ11.cell 0 rfl; have b1 := kZ11.cell 1 rfl; have b2 := kZ11.cell 2 rfl; have b3 := kZ11.cell 3 rfl; have b4 := kZ11.cell 4 rfl; have b5 := kZ11.cell 5 rfl; have bf0 := kZ11.free 0; have bf1 := kZ11.free 1; have bf2 := kZ11.free 2; have bf3 := kZ11.free 3; have bf4 := kZ11.free 4; have bf5 := kZ11.free 5)
            | (go_at_call 131; refine Calls.mono HW.out ?_; rintro e w9 ⟨own9, x9, hq⟩; unfold WordsEnd at hq; rw [if_pos HV.out.1] at hq; obtain ⟨sl, rfl, hr9⟩ := hq; obtain ⟨g, cp, rfl, _⟩ := hr9.form_pos (by decide); have q0 : w9.cell? ⟨g, 0, none⟩ = some (.int .u64 y0) := hr9.cell 0 (by rw [List.getElem?_map, cellsAt_get (by decide) HV.out.1, HV.out.2]; rfl); have kZ9 := HB.out.1.keep x9 HF1.out.2.2.2.2.2.1; have x59 : Ext own own9 [idr, idv] w w9 := (by have z := (HB.out.2.1.mono (jds := [idr, idv, F + 1]) (by intro i hi; simp only [List.mem_cons, List.not_mem_nil, or_false] at hi ⊢; omega)).trans (x9.mono (jds := [idr, idv, F + 1]) (by simp)); exact ⟨z.os, z.tape, z.output, z.size, z.own, fun b hb hn => z.block b hb (by have := HFF.out b hb; simp at hn ⊢; omega)⟩); have hb9 : RB own9 idr w9 r ph pa pm n := Blk.keep HB.out.2.2.2.1 x9 HF1.out.2.1; have hM9 : RM own9 idv w9 pm (numV P 0) := HB.out.2.2.1.keep x9 HF1.out.2.2.1; have ha9 : TabP own9 ida idm w9 pa L := HB.out.2.2.2.2.1.keep x9 HF1.out.2.2.2.2.2.2.2.2.2.1 HF1.out.2.2.2.2.2.2.2.2.2.2.1; have hh9 : HP own9 idh w9 ph most l := HB.out.2.2.2.2.2.keep x9 HF1.out.2.2.2.2.2.2.2.2.2.2.2.1; have HW2 := HWW.out own9)
            | (go_at_call 126; refine (tag_any y0 _).mono ?_; rintro e w10 ⟨rfl, hw10⟩; rw [hw10]; clear hw10)
            | (go_at_call 146; refine (HPA.out _).mono ?_; rintro e w10 ⟨rfl, hw10⟩; rw [hw10]; clear hw10)
            | (go_at_call 129; refine Calls.mono (dname_in own9 idr ida idm w9 r ph pa pm n A L hb9 ha9 HA.out.1 HIS.out HR.out.2.2.2.2.2.1) ?_; rintro e w10 ⟨rfl, n10, rfl⟩))
          have HE := Lib.hid (store_resI (v0 := .int .i64 0) (v1 := .string { data := #[] }) (v2 := .int .i64 0) (v3 := .int .u64 0) (v4 := .int .u64 0) (v5 := .slice none 0 0) x511 (Nat.le_refl _) kZ11)
          (try simp only [Exit.inBlock, Exit.then])
          refine bodyPost_ret (v := .tuple #[.agg #[.int .i64 0, .string ByteArray.empty, .int .i64 0, .int .u64 0, .int .u64 0, .slice none 0 0], .int .i64 2]) ?_ rfl ?_
          · rw [results_cell_tmp rfl]
            have kk := HE.out.2.2
            have z0 := kk.cell 0 rfl
            have z1 := kk.cell 1 rfl
            have z2 := kk.cell 2 rfl
            have z3 := kk.cell 3 rfl
            have z4 := kk.cell 4 rfl
            have z5 := kk.cell 5 rfl
            go_simp
            try rfl
          · exact ⟨own11, HE.out.1, GetEnd.bad (Blk.keep hb11 HE.out.2.1 HF1.out.2.2.2.2.2.2.1) (hM11.keep HE.out.2.1 HF1.out.2.2.2.2.2.2.2.1) (by decide)⟩
      · have hno : compOk l L (D / 8).toNat = false := by
          unfold compOk
          rw [hy, hA, show decide (A < (L.length : Int)) = false from decide_eq_false his]
          simp
        rw [hno, if_neg (by simp)] at hG
        subst hG
        have HIS := Lib.hid (show (L.length : Int) ≤ A by omega)
        clear hno his hv hy hy0 h6 hA hN hyr hpa hA0 hww
        by_cases hws : (D / 8).toNat + (1 + N) ≤ l.length
        · have HWS := Lib.hid hws
          clear hws
          go_enter Try.func128, Try.ntmps128
          go_wp2_with (first
            | (go_at_call 131; refine Calls.mono (HW2 (w9.drewN n10) (hb9.keep ((Ext.refl own9 [] w9).drewN n10) (by simp)) (hh9.keep ((Ext.refl own9 [] w9).drewN n10) (by simp))) ?_; rintro e w11 ⟨own11, x11, hq⟩; unfold WordsEnd at hq; rw [if_pos HWS.out] at hq; obtain ⟨sl2, rfl, hr11⟩ := hq; have x0 := (Ext.refl own9 [] w9).drewN n10; have kZ11 := (kZ9.keep x0 (by simp)).keep x11 (by simp); have x511 : Ext own own11 [idr, idv] w w11 := (by have z := ((x59.mono (jds := [idr, idv, F + 2]) (by intro i hi; simp only [List.mem_cons, List.not_mem_nil, or_false] at hi ⊢; omega)).drewN n10).trans (x11.mono (jds := [idr, idv, F + 2]) (by simp)); exact ⟨z.os, z.tape, z.output, z.size, z.own, fun b hb hn => z.block b hb (by have := HFF.out b hb; simp at hn ⊢; omega)⟩); have hb11 : RB own11 idr w11 r ph pa pm n := Blk.keep (Blk.keep hb9 x0 (by simp)) x11 (by simpa using Ne.symm HF1.out.2.2.2.2.2.2.2.2.2.2.2.2.1); have hM11 : RM own11 idv w11 pm (numV P 0) := (hM9.keep x0 (by simp)).keep x11 HFV.out; have b0 := kZ11.cell 0 rfl; have b1 := kZ11.cell 1 rfl; have b2 := kZ11.cell 2 rfl; have b3 := kZ11.cell 3 rfl; have b4 := kZ11.cell 4 rfl; have b5 := kZ11.cell 5 rfl; have bf0 := kZ11.free 0; have bf1 := kZ11.free 1; have bf2 := kZ11.free 2; have bf3 := kZ11.free 3; have bf4 := kZ11.free 4; have bf5 := kZ11.free 5)
            | (go_at_call 131; refine Calls.mono HW.out ?_; rintro e w9 ⟨own9, x9, hq⟩; unfold WordsEnd at hq; rw [if_pos HV.out.1] at hq; obtain ⟨sl, rfl, hr9⟩ := hq; obtain ⟨g, cp, rfl, _⟩ := hr9.form_pos (by decide); have q0 : w9.cell? ⟨g, 0, none⟩ = some (.int .u64 y0) := hr9.cell 0 (by rw [List.getElem?_map, cellsAt_get (by decide) HV.out.1, HV.out.2]; rfl); have kZ9 := HB.out.1.keep x9 HF1.out.2.2.2.2.2.1; have x59 : Ext own own9 [idr, idv] w w9 := (by have z := (HB.out.2.1.mono (jds := [idr, idv, F + 1]) (by intro i hi; simp only [List.mem_cons, List.not_mem_nil, or_false] at hi ⊢; omega)).trans (x9.mono (jds := [idr, idv, F + 1]) (by simp)); exact ⟨z.os, z.tape, z.output, z.size, z.own, fun b hb hn => z.block b hb (by have := HFF.out b hb; simp at hn ⊢; omega)⟩); have hb9 : RB own9 idr w9 r ph pa pm n := Blk.keep HB.out.2.2.2.1 x9 HF1.out.2.1; have hM9 : RM own9 idv w9 pm (numV P 0) := HB.out.2.2.1.keep x9 HF1.out.2.2.1; have ha9 : TabP own9 ida idm w9 pa L := HB.out.2.2.2.2.1.keep x9 HF1.out.2.2.2.2.2.2.2.2.2.1 HF1.out.2.2.2.2.2.2.2.2.2.2.1; have hh9 : HP own9 idh w9 ph most l := HB.out.2.2.2.2.2.keep x9 HF1.out.2.2.2.2.2.2.2.2.2.2.2.1; have HW2 := HWW.out own9)
            | (go_at_call 126; refine (tag_any y0 _).mono ?_; rintro e w10 ⟨rfl, hw10⟩; rw [hw10]; clear hw10)
            | (go_at_call 146; refine (HPA.out _).mono ?_; rintro e w10 ⟨rfl, hw10⟩; rw [hw10]; clear hw10)
            | (go_at_call 129; refine Calls.mono (dname_out own9 idr ida idm w9 r ph pa pm n A L hb9 ha9 HIS.out HA.out.2.1 HR.out.2.2.2.2.2.1) ?_; rintro e w10 ⟨rfl, n10, rfl⟩))
          have HE := Lib.hid (store_resI (v0 := .int .i64 0) (v1 := .string { data := #[] }) (v2 := .int .i64 0) (v3 := .int .u64 0) (v4 := .int .u64 0) (v5 := .slice none 0 0) x511 (Nat.le_refl _) kZ11)
          (try simp only [Exit.inBlock, Exit.then])
          refine bodyPost_ret (v := .tuple #[.agg #[.int .i64 0, .string ByteArray.empty, .int .i64 0, .int .u64 0, .int .u64 0, .slice none 0 0], .int .i64 2]) ?_ rfl ?_
          · rw [results_cell_tmp rfl]
            have kk := HE.out.2.2
            have z0 := kk.cell 0 rfl
            have z1 := kk.cell 1 rfl
            have z2 := kk.cell 2 rfl
            have z3 := kk.cell 3 rfl
            have z4 := kk.cell 4 rfl
            have z5 := kk.cell 5 rfl
            go_simp
            try rfl
          · exact ⟨own11, HE.out.1, GetEnd.bad (Blk.keep hb11 HE.out.2.1 HF1.out.2.2.2.2.2.2.1) (hM11.keep HE.out.2.1 HF1.out.2.2.2.2.2.2.2.1) (by decide)⟩
        · have HWS := Lib.hid hws
          clear hws
          go_enter Try.func128, Try.ntmps128
          go_wp2_with (first
            | (go_at_call 131; refine Calls.mono (HW2 (w9.drewN n10) (hb9.keep ((Ext.refl own9 [] w9).drewN n10) (by simp)) (hh9.keep ((Ext.refl own9 [] w9).drewN n10) (by simp))) ?_; rintro e w11 ⟨own11, x11, hq⟩; unfold WordsEnd at hq; rw [if_neg HWS.out] at hq; obtain rfl := hq; have x0 := (Ext.refl own9 [] w9).drewN n10; have kZ11 := (kZ9.keep x0 (by simp)).keep x11 (by simp); have x511 : Ext own own11 [idr, idv] w w11 := (by have z := ((x59.mono (jds := [idr, idv, F + 2]) (by intro i hi; simp only [List.mem_cons, List.not_mem_nil, or_false] at hi ⊢; omega)).drewN n10).trans (x11.mono (jds := [idr, idv, F + 2]) (by simp)); exact ⟨z.os, z.tape, z.output, z.size, z.own, fun b hb hn => z.block b hb (by have := HFF.out b hb; simp at hn ⊢; omega)⟩); have hb11 : RB own11 idr w11 r ph pa pm n := Blk.keep (Blk.keep hb9 x0 (by simp)) x11 (by simpa using Ne.symm HF1.out.2.2.2.2.2.2.2.2.2.2.2.2.1); have hM11 : RM own11 idv w11 pm (numV P 0) := (hM9.keep x0 (by simp)).keep x11 HFV.out; have b0 := kZ11.cell 0 rfl; have b1 := kZ11.cell 1 rfl; have b2 := kZ11.cell 2 rfl; have b3 := kZ11.cell 3 rfl; have b4 := kZ11.cell 4 rfl; have b5 := kZ11.cell 5 rfl; have bf0 := kZ11.free 0; have bf1 := kZ11.free 1; have bf2 := kZ11.free 2; have bf3 := kZ11.free 3; have bf4 := kZ11.free 4; have bf5 := kZ11.free 5)
            | (go_at_call 131; refine Calls.mono HW.out ?_; rintro e w9 ⟨own9, x9, hq⟩; unfold WordsEnd at hq; rw [if_pos HV.out.1] at hq; obtain ⟨sl, rfl, hr9⟩ := hq; obtain ⟨g, cp, rfl, _⟩ := hr9.form_pos (by decide); have q0 : w9.cell? ⟨g, 0, none⟩ = some (.int .u64 y0) := hr9.cell 0 (by rw [List.getElem?_map, cellsAt_get (by decide) HV.out.1, HV.out.2]; rfl); have kZ9 := HB.out.1.keep x9 HF1.out.2.2.2.2.2.1; have x59 : Ext own own9 [idr, idv] w w9 := (by have z := (HB.out.2.1.mono (jds := [idr, idv, F + 1]) (by intro i hi; simp only [List.mem_cons, List.not_mem_nil, or_false] at hi ⊢; omega)).trans (x9.mono (jds := [idr, idv, F + 1]) (by simp)); exact ⟨z.os, z.tape, z.output, z.size, z.own, fun b hb hn => z.block b hb (by have := HFF.out b hb; simp at hn ⊢; omega)⟩); have hb9 : RB own9 idr w9 r ph pa pm n := Blk.keep HB.out.2.2.2.1 x9 HF1.out.2.1; have hM9 : RM own9 idv w9 pm (numV P 0) := HB.out.2.2.1.keep x9 HF1.out.2.2.1; have ha9 : TabP own9 ida idm w9 pa L := HB.out.2.2.2.2.1.keep x9 HF1.out.2.2.2.2.2.2.2.2.2.1 HF1.out.2.2.2.2.2.2.2.2.2.2.1; have hh9 : HP own9 idh w9 ph most l := HB.out.2.2.2.2.2.keep x9 HF1.out.2.2.2.2.2.2.2.2.2.2.2.1; have HW2 := HWW.out own9)
            | (go_at_call 126; refine (tag_any y0 _).mono ?_; rintro e w10 ⟨rfl, hw10⟩; rw [hw10]; clear hw10)
            | (go_at_call 146; refine (HPA.out _).mono ?_; rintro e w10 ⟨rfl, hw10⟩; rw [hw10]; clear hw10)
            | (go_at_call 129; refine Calls.mono (dname_out own9 idr ida idm w9 r ph pa pm n A L hb9 ha9 HIS.out HA.out.2.1 HR.out.2.2.2.2.2.1) ?_; rintro e w10 ⟨rfl, n10, rfl⟩))
          have HE := Lib.hid (store_resI (v0 := .int .i64 0) (v1 := .string { data := #[] }) (v2 := .int .i64 0) (v3 := .int .u64 0) (v4 := .int .u64 0) (v5 := .slice none 0 0) x511 (Nat.le_refl _) kZ11)
          (try simp only [Exit.inBlock, Exit.then])
          refine bodyPost_ret (v := .tuple #[.agg #[.int .i64 0, .string ByteArray.empty, .int .i64 0, .int .u64 0, .int .u64 0, .slice none 0 0], .int .i64 2]) ?_ rfl ?_
          · rw [results_cell_tmp rfl]
            have kk := HE.out.2.2
            have z0 := kk.cell 0 rfl
            have z1 := kk.cell 1 rfl
            have z2 := kk.cell 2 rfl
            have z3 := kk.cell 3 rfl
            have z4 := kk.cell 4 rfl
            have z5 := kk.cell 5 rfl
            go_simp
            try rfl
          · exact ⟨own11, HE.out.1, GetEnd.bad (Blk.keep hb11 HE.out.2.1 HF1.out.2.2.2.2.2.2.1) (hM11.keep HE.out.2.1 HF1.out.2.2.2.2.2.2.2.1) (by decide)⟩
    · have hno : compOk l L (D / 8).toNat = false := by
        unfold compOk
        rw [hy, show decide (y0 % 8 = 6) = false from decide_eq_false h6]
        simp
      rw [hno, if_neg (by simp)] at hG
      subst hG
      have HV := Lib.hid (And.intro hv hy0)
      have h6' : (y0 % 8 == 6) = false := by simpa using h6
      clear hno hv hy hy0 h6
      go_enter Try.func128, Try.ntmps128
      go_wp2_with (first
        | (go_at_call 131; refine Calls.mono HW.out ?_; rintro e w9 ⟨own9, x9, hq⟩; unfold WordsEnd at hq; rw [if_pos HV.out.1] at hq; obtain ⟨sl, rfl, hr9⟩ := hq; obtain ⟨g, cp, rfl, _⟩ := hr9.form_pos (by decide); have q0 : w9.cell? ⟨g, 0, none⟩ = some (.int .u64 y0) := hr9.cell 0 (by rw [List.getElem?_map, cellsAt_get (by decide) HV.out.1, HV.out.2]; rfl); have kZ9 := HB.out.1.keep x9 HF1.out.2.2.2.2.2.1; have x59 : Ext own own9 [idr, idv] w w9 := (by have z := (HB.out.2.1.mono (jds := [idr, idv, F + 1]) (by intro i hi; simp only [List.mem_cons, List.not_mem_nil, or_false] at hi ⊢; omega)).trans (x9.mono (jds := [idr, idv, F + 1]) (by simp)); exact ⟨z.os, z.tape, z.output, z.size, z.own, fun b hb hn => z.block b hb (by have := HFF.out b hb; simp at hn ⊢; omega)⟩); have hb9 : RB own9 idr w9 r ph pa pm n := Blk.keep HB.out.2.2.2.1 x9 HF1.out.2.1; have hM9 : RM own9 idv w9 pm (numV P 0) := HB.out.2.2.1.keep x9 HF1.out.2.2.1; have b0 := kZ9.cell 0 rfl; have b1 := kZ9.cell 1 rfl; have b2 := kZ9.cell 2 rfl; have b3 := kZ9.cell 3 rfl; have b4 := kZ9.cell 4 rfl; have b5 := kZ9.cell 5 rfl; have bf0 := kZ9.free 0; have bf1 := kZ9.free 1; have bf2 := kZ9.free 2; have bf3 := kZ9.free 3; have bf4 := kZ9.free 4; have bf5 := kZ9.free 5)
        | (go_at_call 126; refine (tag_any y0 _).mono ?_; rintro e w10 ⟨rfl, hw10⟩; rw [hw10]; clear hw10))
      have HE := Lib.hid (store_resI (v0 := .int .i64 0) (v1 := .string { data := #[] }) (v2 := .int .i64 0) (v3 := .int .u64 0) (v4 := .int .u64 0) (v5 := .slice none 0 0) x59 (Nat.le_refl _) kZ9)
      (try simp only [Exit.inBlock, Exit.then])
      refine bodyPost_ret (v := .tuple #[.agg #[.int .i64 0, .string ByteArray.empty, .int .i64 0, .int .u64 0, .int .u64 0, .slice none 0 0], .int .i64 2]) ?_ rfl ?_
      · rw [results_cell_tmp rfl]
        have kk := HE.out.2.2
        have z0 := kk.cell 0 rfl
        have z1 := kk.cell 1 rfl
        have z2 := kk.cell 2 rfl
        have z3 := kk.cell 3 rfl
        have z4 := kk.cell 4 rfl
        have z5 := kk.cell 5 rfl
        go_simp
        try rfl
      · exact ⟨own9, HE.out.1, GetEnd.bad (Blk.keep hb9 HE.out.2.1 HF1.out.2.2.2.2.2.2.1) (hM9.keep HE.out.2.1 HF1.out.2.2.2.2.2.2.2.1) (by decide)⟩
  · have hno : compOk l L (D / 8).toNat = false := by
      unfold compOk
      rw [show decide ((D / 8).toNat < l.length) = false from decide_eq_false (by omega)]
      rfl
    rw [hno, if_neg (by simp)] at hG
    subst hG
    have HV := Lib.hid hv
    clear hno hv
    go_enter Try.func128, Try.ntmps128
    go_wp2_with (go_at_call 131; refine Calls.mono HW.out ?_; rintro e w9 ⟨own9, x9, hq⟩; unfold WordsEnd at hq; rw [if_neg HV.out] at hq; obtain rfl := hq; have kZ9 := HB.out.1.keep x9 HF1.out.2.2.2.2.2.1; have x59 : Ext own own9 [idr, idv] w w9 := (by have z := (HB.out.2.1.mono (jds := [idr, idv, F + 1]) (by intro i hi; simp only [List.mem_cons, List.not_mem_nil, or_false] at hi ⊢; omega)).trans (x9.mono (jds := [idr, idv, F + 1]) (by simp)); exact ⟨z.os, z.tape, z.output, z.size, z.own, fun b hb hn => z.block b hb (by have := HFF.out b hb; simp at hn ⊢; omega)⟩); have hb9 : RB own9 idr w9 r ph pa pm n := Blk.keep HB.out.2.2.2.1 x9 HF1.out.2.1; have hM9 : RM own9 idv w9 pm (numV P 0) := HB.out.2.2.1.keep x9 HF1.out.2.2.1; have b0 := kZ9.cell 0 rfl; have b1 := kZ9.cell 1 rfl; have b2 := kZ9.cell 2 rfl; have b3 := kZ9.cell 3 rfl; have b4 := kZ9.cell 4 rfl; have b5 := kZ9.cell 5 rfl; have bf0 := kZ9.free 0; have bf1 := kZ9.free 1; have bf2 := kZ9.free 2; have bf3 := kZ9.free 3; have bf4 := kZ9.free 4; have bf5 := kZ9.free 5)
    have HE := Lib.hid (store_resI (v0 := .int .i64 0) (v1 := .string { data := #[] }) (v2 := .int .i64 0) (v3 := .int .u64 0) (v4 := .int .u64 0) (v5 := .slice none 0 0) x59 (Nat.le_refl _) kZ9)
    (try simp only [Exit.inBlock, Exit.then])
    refine bodyPost_ret (v := .tuple #[.agg #[.int .i64 0, .string ByteArray.empty, .int .i64 0, .int .u64 0, .int .u64 0, .slice none 0 0], .int .i64 2]) ?_ rfl ?_
    · rw [results_cell_tmp rfl]
      have kk := HE.out.2.2
      have z0 := kk.cell 0 rfl
      have z1 := kk.cell 1 rfl
      have z2 := kk.cell 2 rfl
      have z3 := kk.cell 3 rfl
      have z4 := kk.cell 4 rfl
      have z5 := kk.cell 5 rfl
      go_simp
      try rfl
    · exact ⟨own9, HE.out.1, GetEnd.bad (Blk.keep hb9 HE.out.2.1 HF1.out.2.2.2.2.2.2.1) (hM9.keep HE.out.2.1 HF1.out.2.2.2.2.2.2.2.1) (by decide)⟩

end Go.Proofs.Ytlmcfclonncgbaa
