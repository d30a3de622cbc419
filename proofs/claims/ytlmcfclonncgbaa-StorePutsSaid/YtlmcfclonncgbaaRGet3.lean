/- The reference's getter: compounds, and as a whole. -/
import Derived.Test.YtlmcfclonncgbaaRGet2
namespace Go.Proofs.Ytlmcfclonncgbaa
open Go.RowKit
set_option linter.unusedVariables false
set_option linter.unusedSimpArgs false

theorem boxV {own o1 : Nat → Nat} {ids : List Nat} {w w1 : World} (x : Ext own o1 ids w w1) (cs : List Value) (ty : TypeId) (F : Nat) (W : World) (hW : w1.alloc (.cells cs.toArray ty) = W) : ∃ o2, Ext own o2 ids w W ∧ Blk o2 F W w1.heap.size cs ty ∧ Ext o1 o2 [] w1 W := by
  subst hW; exact ⟨_, x.box cs ty F⟩
theorem RGetEnd.fail {own : Nat → Nat} {w : World} {idg idv g ph pa pm : Nat} {G : GR} {n' k m re im : Int} {s : ByteArray} {A : Option Addr} {len cap : Nat} (hb : GB own idg w g ph pa pm n' G.1) (he : G.1 ≠ 0) : RGetEnd own w idg idv g ph pa pm G (.returned (.agg #[.int .i64 k, .string s, .int .i64 m, .int .u64 re, .int .u64 im, .slice A len cap])) := by
  unfold RGetEnd
  rw [if_neg he]
  exact ⟨⟨n', hb⟩, k, s, m, re, im, A, len, cap, rfl⟩
/-- What the getter answers, whatever became of it. -/
def RPost (own : Nat → Nat) (w : World) (idg idv g ph pa pm : Nat) (R : GR) (tm : Tm) (sl : Value) : Prop :=
  if R.1 = 0 then GB own idg w g ph pa pm (R.2.2.1 : Nat) 0 ∧ RM own idv w pm (numV R.2.2.2 0) ∧ tm = un R.2.1 ∧ TmS own w tm sl else ∃ n' : Int, GB own idg w g ph pa pm n' R.1
theorem RGetEnd.post {own : Nat → Nat} {w : World} {idg idv g ph pa pm : Nat} {R : GR} {e : Ending} (h : RGetEnd own w idg idv g ph pa pm R e) : ∃ (tm : Tm) (A : Option Addr) (len cap : Nat), e = .returned (.agg #[.int .i64 tm.kind, .string tm.name, .int .i64 tm.int, .int .u64 tm.re, .int .u64 tm.im, .slice A len cap]) ∧ RPost own w idg idv g ph pa pm R tm (.slice A len cap) := by
  unfold RGetEnd at h
  by_cases h0 : R.1 = 0
  · rw [if_pos h0] at h
    obtain ⟨h1, h2, A, len, cap, h3, h4⟩ := h
    exact ⟨un R.2.1, A, len, cap, h3, by unfold RPost; rw [if_pos h0]; exact ⟨h1, h2, rfl, h4⟩⟩
  · rw [if_neg h0] at h
    obtain ⟨⟨n', h1⟩, k, s, n, re, im, A, len, cap, h3⟩ := h
    exact ⟨.mk k s n re im [], A, len, cap, h3, by unfold RPost; rw [if_neg h0]; exact ⟨n', h1⟩⟩
theorem RPost.keep {own own' : Nat → Nat} {w w' : World} {ids : List Nat} {idg idv g ph pa pm : Nat} {R : GR} {tm : Tm} {sl : Value} (h : RPost own w idg idv g ph pa pm R tm sl) (x : Ext own own' ids w w') (hg : idg ∉ ids) (hv : idv ∉ ids) (h0 : 0 ∉ ids) : RPost own' w' idg idv g ph pa pm R tm sl := by
  unfold RPost at h ⊢
  by_cases e : R.1 = 0
  · rw [if_pos e] at h ⊢
    exact ⟨Blk.keep h.1 x hg, h.2.1.keep x hv, h.2.2.1, TmS.keep x h0 _ _ h.2.2.2⟩
  · rw [if_neg e] at h ⊢
    obtain ⟨n', h⟩ := h
    exact ⟨n', Blk.keep h x hg⟩
set_option maxHeartbeats 8000000 in
set_option maxRecDepth 100000 in
theorem rget_comp (d : Int) (hd0 : 0 ≤ d) (hd1 : d ≤ 500) (own : Nat → Nat) (idg idh ida idv : Nat) (hids : IdsR idg idh ida idv) (w : World) (g ph pa pm n : Nat) (most c : Int) (l P : List Int) (L : List ByteArray) (f : Int → Nat → List Int → GR) (hbd : BdF f)
    (hf : ∀ (own : Nat → Nat) (w : World) (n : Nat) (P : List Int) (c : Int), GB own idg w g ph pa pm n 0 → RH own idh w ph most l → RAP own ida w pa L → RM own idv w pm (numV P 0) → 0 ≤ c → c < 18446744073709551616 → n ≤ 2000 → P.length ≤ 998000 + n →
      Calls Try.prog 95 #[.pointer (some ⟨g, 0, none⟩), .int .u64 c, .int .i64 (d + 1)] w (Does own [idg, idv] w fun own' e w' => RGetEnd own' w' idg idv g ph pa pm (f c n P) e))
    (hb : GB own idg w g ph pa pm n 0) (hh : RH own idh w ph most l) (ha : RAP own ida w pa L) (hM : RM own idv w pm (numV P 0)) (hc0 : 0 ≤ c) (hc1 : c < 18446744073709551616) (hl0 : ∀ x ∈ l, 0 ≤ x ∧ x < 18446744073709551616) (hll : l.length ≤ 1048576) (hLL : L.length ≤ 4096) (hn : n ≤ 2000) (hP : P.length ≤ 998000 + n) (h2000 : n ≠ 2000) (hcomp : deref l c % 8 = 1) :
    Calls Try.prog 95 #[.pointer (some ⟨g, 0, none⟩), .int .u64 c, .int .i64 d] w (Does own [idg, idv] w fun own' e w' => RGetEnd own' w' idg idv g ph pa pm (getB l L f c n P) e) := by
  have HHF := Lib.hid (And.intro hf hbd)
  clear hf hbd
  obtain ⟨F0, hF0, hFF⟩ := own_ne own w.heap.size
  obtain ⟨F, hF⟩ : ∃ F, F0 + idg + idh + ida + idv + 1 = F := ⟨_, rfl⟩
  obtain ⟨x1, kZ, y1⟩ := (Ext.refl own [idg, idv] w).box [.int .i64 0, .string { data := #[] }, .int .i64 0, .int .u64 0, .int .u64 0, .slice none 0 0] 25 F
  replace hb := Blk.keep hb y1 (by simp)
  replace hh := hh.keep y1 (by simp)
  replace ha := ha.keep y1 (by simp)
  replace hM := hM.keep y1 (by simp)
  generalize _root_.Go.Proofs.Ytlmcfclonncgbaa.give own w.heap.size F = o1 at *
  obtain ⟨W1, hW1⟩ : ∃ W1, w.alloc (.cells #[.int .i64 0, .string { data := #[] }, .int .i64 0, .int .u64 0, .int .u64 0, .slice none 0 0] 25) = W1 := ⟨_, rfl⟩
  change Blk o1 _ (w.alloc (.cells #[.int .i64 0, .string { data := #[] }, .int .i64 0, .int .u64 0, .int .u64 0, .slice none 0 0] 25)) _ _ _ at kZ
  change Blk o1 _ (w.alloc (.cells #[.int .i64 0, .string { data := #[] }, .int .i64 0, .int .u64 0, .int .u64 0, .slice none 0 0] 25)) _ _ _ at hb
  change RH o1 _ (w.alloc (.cells #[.int .i64 0, .string { data := #[] }, .int .i64 0, .int .u64 0, .int .u64 0, .slice none 0 0] 25)) _ _ _ at hh
  change RAP o1 _ (w.alloc (.cells #[.int .i64 0, .string { data := #[] }, .int .i64 0, .int .u64 0, .int .u64 0, .slice none 0 0] 25)) _ _ at ha
  change MV o1 _ (w.alloc (.cells #[.int .i64 0, .string { data := #[] }, .int .i64 0, .int .u64 0, .int .u64 0, .slice none 0 0] 25)) _ _ _ _ _ _ _ at hM
  change Ext own o1 _ w (w.alloc (.cells #[.int .i64 0, .string { data := #[] }, .int .i64 0, .int .u64 0, .int .u64 0, .slice none 0 0] 25)) at x1
  rw [hW1] at kZ hb hh ha hM x1
  have c0 := Blk.cell hb 0 rfl
  have c1 := Blk.cell hb 1 rfl
  have c2 := Blk.cell hb 2 rfl
  have c3 := Blk.cell hb 3 rfl
  have c4 := Blk.cell hb 4 rfl
  have f3 := Blk.free hb 3
  have hF1 : F ∉ [idg] ∧ idg ∉ [F] ∧ idv ∉ [F] ∧ 0 ∉ [F] ∧ idh ∉ [idg] ∧ ida ∉ [idg] ∧ idv ∉ [idg] ∧ F ∉ [idv] ∧ idg ∉ [idv] ∧ idh ∉ [F] ∧ ida ∉ [F] ∧ F ∉ [idg, idv] := by
    have := hids.gh; have := hids.ga; have := hids.gv
    simp; omega
  have HF1 := Lib.hid hF1
  have y2 : Ext o1 o1 [idg] W1 (W1.setCell ⟨g, 3, none⟩ (.int .i64 ((n : Int) + 1))) := (Ext.refl o1 [idg] W1).setCell _ _ (fun _ => by show o1 g ∈ _; rw [hb.2]; simp)
  have hb2 : GB o1 idg (W1.setCell ⟨g, 3, none⟩ (.int .i64 ((n : Int) + 1))) g ph pa pm ((n : Int) + 1) 0 := Blk.set hb 3 _
  have hh2 := hh.keep y2 hF1.2.2.2.2.1
  have ha2 := ha.keep y2 hF1.2.2.2.2.2.1
  have hM2 := hM.keep y2 hF1.2.2.2.2.2.2.1
  have kZ2 := kZ.keep y2 hF1.1
  have x2 := x1.trans (y2.mono (by simp))
  obtain ⟨W2, hW2⟩ : ∃ W2, W1.setCell ⟨g, 3, none⟩ (.int .i64 ((n : Int) + 1)) = W2 := ⟨_, rfl⟩
  rw [hW2] at hb2 hh2 ha2 hM2 kZ2 x2
  have d0 := Blk.cell hb2 0 rfl
  have d3 := Blk.cell hb2 3 rfl
  have hwn : IntKind.i64.wrap ((n : Int) + 1) = (n : Int) + 1 := by rw [IntKind.wrap_i64]; omega
  obtain ⟨G, hG⟩ : ∃ G, getB l L f c n P = G := ⟨_, rfl⟩
  rw [hG]
  unfold getB at hG
  rw [if_neg h2000, if_neg (by omega), if_pos hcomp] at hG
  have hleaf := hcomp
  have hF6 : F + 4 ∉ [idg, idv] ∧ F + 3 ∉ [idg, idv] ∧ 0 ∉ [idg, idv] ∧ idg ∉ [F + 3] ∧ idg ∉ [F + 4] ∧ idv ∉ [F + 3] ∧ idv ∉ [F + 4] ∧ F + 4 ∉ [F + 3] ∧ F ∉ [idg, idv, F + 3, F + 4] ∧ idh ∉ [idg, idv, F + 3, F + 4] ∧ ida ∉ [idg, idv, F + 3, F + 4] ∧ idg ≠ F + 3 ∧ idv ≠ F + 3 ∧ idh ≠ F + 3 := by
    have := hids.g0; have := hids.v0; have := hids.gh; have := hids.ga; have := hids.vh; have := hids.va
    simp; omega
  have HF6 := Lib.hid hF6
  have hn2 : decide ((2000 : Int) < (n : Int) + 1) = false := decide_eq_false (by omega)
  have hdd : decide ((500 : Int) < d) = false := decide_eq_false (by omega)
  have hder := rderef_any o1 idh ph most c l W2 hh2 hc0 (fun x hx => (hl0 x hx).1)
  have hdr := derefF_rng hl0 (by decide) l.length c ⟨hc0, hc1⟩
  change 0 ≤ deref l c ∧ deref l c < 18446744073709551616 at hdr
  obtain ⟨D, hDD⟩ : ∃ D, deref l c = D := ⟨_, rfl⟩
  rw [hDD] at hder hdr hG hleaf
  have hT0 : ∀ w, Calls Try.prog 133 #[.int .u64 D] w fun e w' => e = .returned (.int .i64 (D % 8)) ∧ w' = w := fun w => rtag_any D w
  have hV0 : ∀ w, Calls Try.prog 132 #[.int .u64 D] w fun e w' => e = .returned (.int .u64 (D / 8)) ∧ w' = w := fun w => rvalue_any D w
  have HD := Lib.hid hder
  have HT := Lib.hid hT0
  have HVA := Lib.hid hV0
  have HB := Lib.hid (And.intro kZ2 (And.intro x2 (And.intro hM2 (And.intro hb2 (And.intro ha2 hh2)))))
  have HFF := Lib.hid (show ∀ b, b < w.heap.size → own b < F from fun b hb => by have := hFF b hb; omega)
  have HR := Lib.hid (And.intro hdr (And.intro hids (And.intro hl0 (And.intro hll (And.intro hLL (And.intro hn hP))))))
  have HFB := Lib.hid (show F0 + idg + idh + ida + idv + 1 = F from hF)
  clear hFF hF hF0 hM hh ha hb y1 kZ hc0 hc1 hl0 hll hLL hn hP hder hT0 hV0 y2 hh2 ha2 hM2 kZ2 x2 hb2 hids hF1 hDD x1 hdr
  clear hF6 hcomp
  have hD8 : 0 ≤ D / 8 := by have := HR.out.1.1; omega
  have q0 : (D % 8 == 0) = false := by simp; omega
  have q1 : (D % 8 == 1) = true := by simpa using hleaf
  have q2 : (D % 8 == 2) = false := by simp; omega
  have q3 : (D % 8 == 3) = false := by simp; omega
  have q4 : (D % 8 == 4) = false := by simp; omega
  have q5 : (D % 8 == 5) = false := by simp; omega
  unfold compG at hG
  by_cases hfo : funOk l (D / 8).toNat = true
  · have hfo' := hfo
    unfold funOk at hfo'
    simp only [Bool.and_eq_true, decide_eq_true_eq] at hfo'
    obtain ⟨y0, hy0⟩ : ∃ y, l.getD (D / 8).toNat 0 = y := ⟨_, rfl⟩
    have hyr : 0 ≤ y0 ∧ y0 < 18446744073709551616 := by
      rw [← hy0]; exact HR.out.2.2.1 _ (by simp only [List.getD, List.getElem?_eq_getElem hfo'.1.1.1.1, Option.getD_some]; exact List.getElem_mem _)
    obtain ⟨AA, hAA⟩ : ∃ a, y0 / 8 / 256 = a := ⟨_, rfl⟩
    obtain ⟨N, hN⟩ : ∃ N : Nat, y0 / 8 % 256 = N := ⟨(y0 / 8 % 256).toNat, by omega⟩
    have hfv : funV l (D / 8).toNat = .tuple #[.int .i64 AA, .int .i64 N, .bool true] := by unfold funV; rw [if_pos hfo, hy0, hAA, hN]
    rw [hy0, hN, show ((N : Int)).toNat = N by omega] at hfo'
    have HFN := Lib.hid hfv
    have HA := Lib.hid (show 0 ≤ AA ∧ AA < 18446744073709551616 by omega)
    have hwA : IntKind.u64.wrap AA = AA := by rw [wrap_u64]; omega
    rw [hy0, hAA, hN, show ((N : Int)).toNat = N by omega] at hG
    by_cases hat : AA < (L.length : Int)
    · have hok : compOk l L (D / 8).toNat = true := by
        unfold compOk
        simp only [hy0, hAA, hN, Bool.and_eq_true, decide_eq_true_eq]
        refine ⟨⟨⟨⟨⟨by omega, by omega⟩, hat⟩, by omega⟩, by omega⟩, by omega⟩
      rw [if_pos hok] at hG
      obtain ⟨sn0, hsn0⟩ : ∃ s, L.getD AA.toNat ByteArray.empty = s := ⟨_, rfl⟩
      have hsz0 : sn0.size ≤ maxLen := by
        have hs := HB.out.2.2.2.2.1.names.short sn0 (by rw [← hsn0]; simp only [List.getD, List.getElem?_eq_getElem (show AA.toNat < L.length by omega), Option.getD_some]; exact List.getElem_mem _)
        unfold maxLen; omega
      rw [hsn0] at hG
      have HSN := Lib.hid (And.intro hsn0 hsz0)
      have HAT := Lib.hid hat
      obtain ⟨CS, hCS⟩ : ∃ C, cellsAt l ((D / 8).toNat + 1) N = C := ⟨_, rfl⟩
      have hCl : CS.length = N := by rw [← hCS]; exact cellsAt_length (by omega)
      have hCg : ∀ j, j < N → l[(D / 8).toNat + 1 + j]? = CS[j]? := fun j hj => by
        rw [← hCS, cellsAt_get hj (by omega), getD_mem (by omega)]
      have hCp : ∀ x ∈ CS, 0 ≤ x ∧ x < 18446744073709551616 := fun x hx => by
        rw [← hCS] at hx
        exact HR.out.2.2.1 x (List.mem_of_mem_drop (List.mem_of_mem_take hx))
      rw [hCS] at hG
      have HCC := Lib.hid (And.intro hCl (And.intro hCg (And.intro hCp hG)))
      have HNN := Lib.hid (And.intro hfo'.2 (And.intro hfo'.1.1.2 hfo'.1.2))
      have hNb : N ≤ 20 := by omega
      have HN2 := Lib.hid (show n ≤ 1999 by have := HR.out.2.2.2.2.2.1; omega)
      have HN3 := Lib.hid (show P.length ≤ 998000 + (n + 1) by have := HR.out.2.2.2.2.2.2; omega)
      clear hfo hfo' hy0 hyr hAA hN hfv hat hok hsn0 hsz0 hCS hCl hCg hCp hG hleaf h2000
      go_enter Try.func95, Try.ntmps95
      go_wp2_with (first
        | (go_at_call 113; refine Calls.mono HD.out ?_; rintro e w9 ⟨rfl, n5, rfl⟩; have xd := (Ext.refl o1 [] W2).drewN n5; have kZ5 := HB.out.1.keep xd (by simp); have x5 := HB.out.2.1.trans (xd.mono (jds := [idg, idv]) (by simp)); have hM5 : RM o1 idv (W2.drewN n5) pm (numV P 0) := HB.out.2.2.1.keep xd (by simp); have hb5 : GB o1 idg (W2.drewN n5) g ph pa pm ((n : Int) + 1) 0 := Blk.keep HB.out.2.2.2.1 xd (by simp); have ha5 : RAP o1 ida (W2.drewN n5) pa L := HB.out.2.2.2.2.1.keep xd (by simp); have hh5 : RH o1 idh (W2.drewN n5) ph most l := HB.out.2.2.2.2.2.keep xd (by simp); obtain ⟨W5, hW5⟩ : ∃ W, W2.drewN n5 = W := ⟨_, rfl⟩; rw [hW5] at kZ5 x5 hM5 hb5 ha5 hh5 ⊢; have b0 := kZ5.cell 0 rfl; have b1 := kZ5.cell 1 rfl; have b2 := kZ5.cell 2 rfl; have b3 := kZ5.cell 3 rfl; have b4 := kZ5.cell 4 rfl; have b5 := kZ5.cell 5 rfl; have bf0 := kZ5.free 0; have bf1 := kZ5.free 1; have bf2 := kZ5.free 2; have bf3 := kZ5.free 3; have bf4 := kZ5.free 4; have bf5 := kZ5.free 5; have gp0 := Blk.cell hb5 0 rfl; have gp1 := Blk.cell hb5 1 rfl; have gp2 := Blk.cell hb5 2 rfl; have gp3 := Blk.cell hb5 3 rfl; have gp4 := Blk.cell hb5 4 rfl; have gpf4 := Blk.free hb5 4)
        | (go_at_call 132; refine (HVA.out _).mono ?_; rintro e w9 ⟨rfl, hw9⟩; rw [hw9]; clear hw9)
        | (go_at_call 133; refine (HT.out _).mono ?_; rintro e w9 ⟨rfl, hw9⟩; rw [hw9]; clear hw9)
        | (go_at_call 138; refine Calls.mono (by have z := rfun_any o1 idh ph most l W5 hh5 D HR.out.1.1 HR.out.1.2 HR.out.2.2.1; rw [HFN.out] at z; exact z) ?_; rintro e w9 ⟨rfl, n6, rfl⟩; have xe := (Ext.refl o1 [] W5).drewN n6; have kZ7 := kZ5.keep xe (by simp); have x7 := x5.trans (xe.mono (jds := [idg, idv]) (by simp)); have hb7 : GB o1 idg (W5.drewN n6) g ph pa pm ((n : Int) + 1) 0 := Blk.keep hb5 xe (by simp); have hM7 : RM o1 idv (W5.drewN n6) pm (numV P 0) := hM5.keep xe (by simp); have ha7 := ha5.keep xe (by simp); have hh7 := hh5.keep xe (by simp); obtain ⟨W7, hW7⟩ : ∃ W, W5.drewN n6 = W := ⟨_, rfl⟩; rw [hW7] at kZ7 x7 hb7 hM7 ha7 hh7 ⊢; have b0 := kZ7.cell 0 rfl; have b1 := kZ7.cell 1 rfl; have b2 := kZ7.cell 2 rfl; have b3 := kZ7.cell 3 rfl; have b4 := kZ7.cell 4 rfl; have b5 := kZ7.cell 5 rfl; have bf0 := kZ7.free 0; have bf1 := kZ7.free 1; have bf2 := kZ7.free 2; have bf3 := kZ7.free 3; have bf4 := kZ7.free 4; have bf5 := kZ7.free 5; have ep0 := Blk.cell hb7 0 rfl; have ep1 := Blk.cell hb7 1 rfl; have ep2 := Blk.cell hb7 2 rfl; have ep3 := Blk.cell hb7 3 rfl; have ep4 := Blk.cell hb7 4 rfl; have epf4 := Blk.free hb7 4)
        | (go_at_call 135; refine Calls.mono (by have z := rname_in o1 idg ida W7 g ph pa pm _ 0 AA L hb7 ha7 HA.out.1 HAT.out HR.out.2.2.2.2.1; rw [HSN.out.1] at z; exact z) ?_; rintro e w9 ⟨rfl, n8, rfl⟩; have xe8 := (Ext.refl o1 [] W7).drewN n8; obtain ⟨w8, hW8⟩ : ∃ W, W7.drewN n8 = W := ⟨_, rfl⟩; rw [hW8] at xe8 ⊢; have kZ8 := kZ7.keep xe8 (by simp); have x78 := x7.trans (xe8.mono (jds := [idg, idv]) (by simp)); have hb8 : GB o1 idg w8 g ph pa pm ((n : Int) + 1) 0 := Blk.keep hb7 xe8 (by simp); have hM8 : RM o1 idv w8 pm (numV P 0) := hM7.keep xe8 (by simp); have ha8 := ha7.keep xe8 (by simp); have hh8 := hh7.keep xe8 (by simp)))
      obtain ⟨W12, hW12⟩ : ∃ W, w8.alloc (.cells #[.int .i64 5, .string sn0, .int .i64 0, .int .u64 0, .int .u64 0, .slice none 0 0] 25) = W := ⟨_, rfl⟩
      obtain ⟨o12, x12, kO, y12⟩ := boxV x78 [.int .i64 5, .string sn0, .int .i64 0, .int .u64 0, .int .u64 0, .slice none 0 0] 25 (F + 4) W12 hW12
      rw [hW12]
      clear hW12
      have kZ12 := kZ8.keep y12 (by simp)
      have hb12 : GB o12 idg W12 g ph pa pm ((n : Int) + 1) 0 := Blk.keep hb8 y12 (by simp)
      have hM12 : RM o12 idv W12 pm (numV P 0) := hM8.keep y12 (by simp)
      have ha12 := ha8.keep y12 (by simp)
      have hh12 := hh8.keep y12 (by simp)
      have H12 := Lib.hid (And.intro kO (And.intro kZ12 (And.intro x12 (And.intro hM12 (And.intro hb12 (And.intro ha12 hh12))))))
      clear kO kZ12 x12 hM12 hb12 ha12 hh12 y12 kZ8 x78 hb8 hM8 ha8 hh8 xe8 kZ7 x7 hb7 hM7 ha7 hh7 xe kZ5 x5 hb5 hM5 ha5 hh5 xd
      go_loopw [14] (fun u wr => ∃ (j : Nat) (own' : Nat → Nat) (v : Value), u = .int .i64 j ∧ j ≤ N ∧ Ext o12 own' [idg, idv, F + 3, F + 4] W12 wr ∧ Blk own' (F + 4) wr w8.heap.size [.int .i64 5, .string sn0, .int .i64 0, .int .u64 0, .int .u64 0, v] 25 ∧
                  ((∃ (lt : List (Tm × Value)) (n' : Nat) (P' : List Int) (cts : List CT), lt.length = j ∧ Row own' (F + 3) wr 25 6 v j (termCells lt) ∧ (∀ z ∈ lt, TmS own' wr z.1 z.2) ∧ GB own' idg wr g ph pa pm n' 0 ∧ RM own' idv wr pm (numV P' 0) ∧ n' ≤ 2000 ∧ P'.length ≤ 998000 + n' ∧ lt.map (·.1) = cts.map un ∧ getArgs f CS (n + 1) P = ((getArgs f (CS.drop j) n' P').1, cts ++ (getArgs f (CS.drop j) n' P').2.1, (getArgs f (CS.drop j) n' P').2.2)) ∨
                   ((∃ A le ca, v = .slice A le ca) ∧ ∃ n' : Int, GB own' idg wr g ph pa pm n' G.1 ∧ G.1 ≠ 0))) (fun u _ => N - (intOf u).toNat)
      case atStart => exact ⟨0, o12, _, rfl, Nat.zero_le _, Ext.refl _ _ _, H12.out.1, Or.inl ⟨[], n + 1, P, [], rfl, Row.nil _ _ _ _ _, by simp, GB.succ H12.out.2.2.2.2.1, H12.out.2.2.2.1, by have := HN2.out; omega, HN3.out, rfl, by simp⟩⟩
      case round =>
        obtain ⟨j, own', v, rfl, hj, x, kO, hgb⟩ := hrel
        rcases hgb with ⟨lt, n', P', cts, hltj, hr, hTl, hb', hM', hn', hP', hmap, hga⟩ | ⟨⟨A9, l9, cap9, rfl⟩, n', hb', hg0⟩
        · have g4 := Blk.cell hb' 4 rfl
          by_cases hlt : j < N
          · obtain ⟨ce, hcs⟩ : ∃ c, CS[j]? = some c := ⟨_, List.getElem?_eq_getElem (by rw [HCC.out.1]; exact hlt)⟩
            have hdrop : CS.drop j = ce :: CS.drop (j + 1) := by
              have h' : j < CS.length := by rw [HCC.out.1]; exact hlt
              rw [List.getElem?_eq_getElem h'] at hcs
              rw [List.drop_eq_getElem_cons h', Option.some.inj hcs]
            have hcr := HCC.out.2.2.1 ce (List.mem_of_getElem? hcs)
            have hdr := (Ext.refl own' [] wr).drew
            have hhr := H12.out.2.2.2.2.2.2.keep x HF6.out.2.2.2.2.2.2.2.2.2.1
            have har := H12.out.2.2.2.2.2.1.keep x HF6.out.2.2.2.2.2.2.2.2.2.2.1
            have hbd' : GB own' idg wr.drew g ph pa pm n' 0 := Blk.keep hb' hdr (by simp)
            have hcall := HHF.out.1 own' wr.drew n' P' ce hbd' (hhr.keep hdr (by simp)) (har.keep hdr (by simp)) (hM'.keep hdr (by simp)) hcr.1 hcr.2 hn' hP'
            obtain ⟨R, hR⟩ : ∃ R, f ce n' P' = R := ⟨_, rfl⟩
            have hbR := HHF.out.2 ce n' P' ⟨hn', hP'⟩
            rw [hR] at hcall hbR
            rw [hdrop] at hga
            simp only [getArgs, hR] at hga
            have HCL := Lib.hid hcall
            obtain ⟨A1, cp1, rfl, hcp⟩ := hr.form
            have hl72 : (j + 1) * 72 ≤ 140737488355328 := by omega
            have kO1 := kO
            have hr1 := hr
            obtain ⟨vh, kh, krr, _⟩ := id (hhr.keep hdr (by simp))
            obtain ⟨gh, cph, rfl, _⟩ := krr.form_pos (by have := HNN.out.1; omega)
            have hc0 := kh.cell 0 rfl
            have hcv := krr.cell (D / 8 + 1 + (j : Int)).toNat (u := .int .u64 ce) (by unfold words; rw [List.getElem?_map, show (D / 8 + 1 + (j : Int)).toNat = (D / 8).toNat + 1 + j by omega, HCC.out.2.1 j hlt, hcs]; rfl)
            have gp0 := Blk.cell hbd' 0 rfl
            have HS : wr.drew.cell? ⟨w8.heap.size, 5, none⟩ = some (.slice A1 j cp1) := kO.cell 5 rfl
            have HIDX := Lib.hid (show 0 ≤ D / 8 + 1 + (j : Int) ∧ D / 8 + 1 + (j : Int) < (l.length : Int) by have := HNN.out.1; omega)
            have hwd : IntKind.i64.wrap (d + 1) = d + 1 := by rw [IntKind.wrap_i64]; omega
            have hwv : IntKind.i64.wrap (D / 8) = D / 8 := by have := HR.out.1.2; rw [IntKind.wrap_i64]; omega
            have hwv1 : IntKind.i64.wrap (D / 8 + 1) = D / 8 + 1 := by have := HR.out.1.2; rw [IntKind.wrap_i64]; omega
            have hwv2 : IntKind.i64.wrap (D / 8 + 1 + (j : Int)) = D / 8 + 1 + (j : Int) := by have := HR.out.1.2; rw [IntKind.wrap_i64]; omega
            have HI := Lib.hid (And.intro x (And.intro hmap (And.intro hTl (And.intro hga hbR))))
            clear hga hR hcall hbR hdrop hcs hcr hhr har hbd' x hmap hTl kO hr hb' hM' hn' hP' kh krr hdr
            go_wp2_with fail
            refine wp_calmN ?_
            refine wp_region_till 21 (fun W => W.cell? ⟨w8.heap.size, 5, none⟩ = some (.slice A1 j cp1)) (by kernel_rfl) ?_
            refine wpTill_free 0 (v := ?_) rfl (by kernel_rfl) (by kernel_rfl) (by kernel_rfl) (by kernel_rfl) (fun _ _ _ h => h) rfl (fun _ => HS) ?_ ?_
            rotate_left 1
            · intro w; go_simp; try with_reducible rfl
            try simp only [Act.put, List.setIfInBounds_toArray, List.set_cons_zero, List.set_cons_succ, List.getElem_toArray, List.getElem_cons_succ, List.getElem_cons_zero]
            refine wpTill_take 1 (v := ?_) rfl (by kernel_rfl) (by kernel_rfl) (by kernel_rfl) (by kernel_rfl) (by kernel_rfl) (fun _ _ _ h => h) rfl HS ?_ ?_
            rotate_left 1
            · intro w hSw; go_split_ands; go_simp; try with_reducible rfl
            try simp only [Act.put, List.setIfInBounds_toArray, List.set_cons_zero, List.set_cons_succ, List.getElem_toArray, List.getElem_cons_succ, List.getElem_cons_zero]
            refine wpTill_free 2 (v := ?_) rfl (by kernel_rfl) (by kernel_rfl) (by kernel_rfl) (by kernel_rfl) (fun _ _ _ h => h) rfl (fun _ => HS) ?_ ?_
            rotate_left 1
            · intro w; go_simp; try with_reducible rfl
            try simp only [Act.put, List.setIfInBounds_toArray, List.set_cons_zero, List.set_cons_succ, List.getElem_toArray, List.getElem_cons_succ, List.getElem_cons_zero]
            refine wpTill_free 3 (v := ?_) rfl (by kernel_rfl) (by kernel_rfl) (by kernel_rfl) (by kernel_rfl) (fun _ _ _ h => h) rfl (fun _ => HS) ?_ ?_
            rotate_left 1
            · intro w; go_simp; try with_reducible rfl
            try simp only [Act.put, List.setIfInBounds_toArray, List.set_cons_zero, List.set_cons_succ, List.getElem_toArray, List.getElem_cons_succ, List.getElem_cons_zero]
            refine wpTill_free 4 (v := ?_) rfl (by kernel_rfl) (by kernel_rfl) (by kernel_rfl) (by kernel_rfl) (fun _ _ _ h => h) rfl (fun _ => HS) ?_ ?_
            rotate_left 1
            · intro w; go_simp; try with_reducible rfl
            try simp only [Act.put, List.setIfInBounds_toArray, List.set_cons_zero, List.set_cons_succ, List.getElem_toArray, List.getElem_cons_succ, List.getElem_cons_zero]
            refine wpTill_free 5 (v := ?_) rfl (by kernel_rfl) (by kernel_rfl) (by kernel_rfl) (by kernel_rfl) (fun _ _ _ h => h) rfl (fun _ => HS) ?_ ?_
            rotate_left 1
            · intro w; go_simp; try with_reducible rfl
            try simp only [Act.put, List.setIfInBounds_toArray, List.set_cons_zero, List.set_cons_succ, List.getElem_toArray, List.getElem_cons_succ, List.getElem_cons_zero]
            refine wpTill_free 10 (v := ?_) rfl (by kernel_rfl) (by kernel_rfl) (by kernel_rfl) (by kernel_rfl) (fun _ _ _ h => h) rfl (fun _ => HS) ?_ ?_
            rotate_left 1
            · intro w; go_simp; try with_reducible rfl
            try simp only [Act.put, List.setIfInBounds_toArray, List.set_cons_zero, List.set_cons_succ, List.getElem_toArray, List.getElem_cons_succ, List.getElem_cons_zero]
            refine wpTill_free 11 (v := ?_) rfl (by kernel_rfl) (by kernel_rfl) (by kernel_rfl) (by kernel_rfl) (fun _ _ _ h => h) rfl (fun _ => HS) ?_ ?_
            rotate_left 1
            · intro w; go_simp; try with_reducible rfl
            try simp only [Act.put, List.setIfInBounds_toArray, List.set_cons_zero, List.set_cons_succ, List.getElem_toArray, List.getElem_cons_succ, List.getElem_cons_zero]
            refine wpTill_free 12 (v := ?_) rfl (by kernel_rfl) (by kernel_rfl) (by kernel_rfl) (by kernel_rfl) (fun _ _ _ h => h) rfl (fun _ => HS) ?_ ?_
            rotate_left 1
            · intro w; go_simp; try with_reducible rfl
            try simp only [Act.put, List.setIfInBounds_toArray, List.set_cons_zero, List.set_cons_succ, List.getElem_toArray, List.getElem_cons_succ, List.getElem_cons_zero]
            refine wpTill_free 13 (v := ?_) rfl (by kernel_rfl) (by kernel_rfl) (by kernel_rfl) (by kernel_rfl) (fun _ _ _ h => h) rfl (fun _ => HS) ?_ ?_
            rotate_left 1
            · intro w; go_simp; try with_reducible rfl
            try simp only [Act.put, List.setIfInBounds_toArray, List.set_cons_zero, List.set_cons_succ, List.getElem_toArray, List.getElem_cons_succ, List.getElem_cons_zero]
            refine wpTill_free 14 (v := ?_) rfl (by kernel_rfl) (by kernel_rfl) (by kernel_rfl) (by kernel_rfl) (fun _ _ _ h => h) rfl (fun _ => HS) ?_ ?_
            rotate_left 1
            · intro w; go_simp; try with_reducible rfl
            try simp only [Act.put, List.setIfInBounds_toArray, List.set_cons_zero, List.set_cons_succ, List.getElem_toArray, List.getElem_cons_succ, List.getElem_cons_zero]
            refine wpTill_free 17 (v := ?_) rfl (by kernel_rfl) (by kernel_rfl) (by kernel_rfl) (by kernel_rfl) (fun _ _ _ h => h) rfl (fun _ => HS) ?_ ?_
            rotate_left 1
            · intro w; go_simp; try with_reducible rfl
            try simp only [Act.put, List.setIfInBounds_toArray, List.set_cons_zero, List.set_cons_succ, List.getElem_toArray, List.getElem_cons_succ, List.getElem_cons_zero]
            refine wpTill_free 18 (v := ?_) rfl (by kernel_rfl) (by kernel_rfl) (by kernel_rfl) (by kernel_rfl) (fun _ _ _ h => h) rfl (fun _ => HS) ?_ ?_
            rotate_left 1
            · intro w; go_simp; try with_reducible rfl
            try simp only [Act.put, List.setIfInBounds_toArray, List.set_cons_zero, List.set_cons_succ, List.getElem_toArray, List.getElem_cons_succ, List.getElem_cons_zero]
            refine wpTill_one 6 rfl (by kernel_rfl) rfl (fun K hK => ?_)
            go_simp
            refine hK.out _ _ (fun _ => HS) ?_
            clear hK K
            try simp only [Act.put, List.setIfInBounds_toArray, List.set_cons_zero, List.set_cons_succ, List.getElem_toArray, List.getElem_cons_succ, List.getElem_cons_zero]
            refine wpTill_free 7 (v := ?_) rfl (by kernel_rfl) (by kernel_rfl) (by kernel_rfl) (by kernel_rfl) (fun _ _ _ h => h) rfl (fun _ => HS) ?_ ?_
            rotate_left 1
            · intro w; go_simp; try with_reducible rfl
            try simp only [Act.put, List.setIfInBounds_toArray, List.set_cons_zero, List.set_cons_succ, List.getElem_toArray, List.getElem_cons_succ, List.getElem_cons_zero]
            refine wpTill_free 8 (v := ?_) rfl (by kernel_rfl) (by kernel_rfl) (by kernel_rfl) (by kernel_rfl) (fun _ _ _ h => h) rfl (fun _ => HS) ?_ ?_
            rotate_left 1
            · intro w; go_simp; try with_reducible rfl
            try simp only [Act.put, List.setIfInBounds_toArray, List.set_cons_zero, List.set_cons_succ, List.getElem_toArray, List.getElem_cons_succ, List.getElem_cons_zero]
            refine wpTill_one 9 rfl (by kernel_rfl) rfl (fun K hK => ?_)
            go_simp
            refine hK.out _ _ (fun _ => HS) ?_
            clear hK K
            try simp only [Act.put, List.setIfInBounds_toArray, List.set_cons_zero, List.set_cons_succ, List.getElem_toArray, List.getElem_cons_succ, List.getElem_cons_zero]
            refine wpTill_free 15 (v := ?_) rfl (by kernel_rfl) (by kernel_rfl) (by kernel_rfl) (by kernel_rfl) (fun _ _ _ h => h) rfl (fun _ => HS) ?_ ?_
            rotate_left 1
            · intro w; go_simp; rw [if_pos HIDX.out]; try with_reducible rfl
            try simp only [Act.put, List.setIfInBounds_toArray, List.set_cons_zero, List.set_cons_succ, List.getElem_toArray, List.getElem_cons_succ, List.getElem_cons_zero]
            refine wpTill_one 16 rfl (by kernel_rfl) rfl (fun K hK => ?_)
            go_simp
            refine hK.out _ _ (fun _ => HS) ?_
            clear hK K
            try simp only [Act.put, List.setIfInBounds_toArray, List.set_cons_zero, List.set_cons_succ, List.getElem_toArray, List.getElem_cons_succ, List.getElem_cons_zero]
            refine wpTill_one 19 rfl (by kernel_rfl) rfl (fun K hK => ?_)
            go_simp
            refine Calls.mono HCL.out ?_
            rintro e w3 ⟨own3, x3, hE⟩
            obtain ⟨tm, A3, l3, cp3, rfl, hpost⟩ := RGetEnd.post hE
            replace x3 := x3.ofDraw
            have kB3 := kO1.keep x3 HF6.out.1
            have hr3 := hr1.keep x3 HF6.out.2.1
            have HAPP := Lib.hid (fun (o : Oper) (a : Act) (K : Act → World → Prop) (Q : Exit → Act → World → Prop) (ho : o.op = .call { callee := .builtin .append, args := #[.tmp 205, .tmp 224], argTypes := #[23, 23] }) (hs : a.eval (.tmp 205) = .slice A1 j cp1) (hx : a.eval (.tmp 224) = .slice (some ⟨w3.heap.size, 0, none⟩) 1 1) => wp_append_row (P := Try.prog) (Q := Q) (K := K) (.tmp 205) (.tmp 224) 23 ho 25 (.agg #[.int .i64 0, .string ByteArray.empty, .int .i64 0, .int .u64 0, .int .u64 0, .slice none 0 0]) 6 72 Try.underlying23 info_term rfl (by decide) (by decide) w3 (cellsT tm (.slice A3 l3 cp3)) rfl hs hx rfl (cellsT_one _ _ _ _) hr3 hl72)
            refine hK.out _ _ (fun _ => kB3.cell 5 rfl) ?_
            clear hK K
            try simp only [Act.put, List.setIfInBounds_toArray, List.set_cons_zero, List.set_cons_succ, List.getElem_toArray, List.getElem_cons_succ, List.getElem_cons_zero]
            refine wpTill_one 20 rfl (by kernel_rfl) rfl (fun K hK => ?_)
            go_simp
            refine hK.out _ _ (fun _ => Blk.cell (kB3.alloc _) 5 rfl) ?_
            clear hK K
            try simp only [Act.put, List.setIfInBounds_toArray, List.set_cons_zero, List.set_cons_succ, List.getElem_toArray, List.getElem_cons_succ, List.getElem_cons_zero]
            refine wpTill_one 21 rfl (by kernel_rfl) rfl (fun K hK => ?_)
            refine HAPP.out _ _ _ _ rfl rfl rfl ?_
            intro gg cp2 w5 own5 kr5 xe5 ko5 kb5
            have kB5 := kB3.keep xe5 (by simp)
            have fB5 := kB5.free 5
            have cB5 := kB5.cell 5 rfl
            refine hK.out _ _ (Till.gone (by kernel_rfl)) ?_
            clear hK K
            try simp only [Act.put, List.setIfInBounds_toArray, List.set_cons_zero, List.set_cons_succ, List.getElem_toArray, List.getElem_cons_succ, List.getElem_cons_zero]
            refine wpTill_free 22 (v := ?_) rfl (by kernel_rfl) (by kernel_rfl) (by kernel_rfl) (by kernel_rfl) (fun _ _ _ h => h) rfl (Till.gone (by kernel_rfl)) ?_ ?_
            rotate_left 1
            · intro w; go_simp; try with_reducible rfl
            try simp only [Act.put, List.setIfInBounds_toArray, List.set_cons_zero, List.set_cons_succ, List.getElem_toArray, List.getElem_cons_succ, List.getElem_cons_zero]
            refine wpTill_one 23 rfl (by kernel_rfl) rfl (fun K hK => ?_)
            go_simp
            refine hK.out _ _ (Till.gone (by kernel_rfl)) ?_
            clear hK K
            try simp only [Act.put, List.setIfInBounds_toArray, List.set_cons_zero, List.set_cons_succ, List.getElem_toArray, List.getElem_cons_succ, List.getElem_cons_zero]
            refine wpTill_done (by kernel_rfl) ?_ _
            have hne : Value.ownBlock (.slice (some ⟨gg, 0, none⟩) (j + 1) cp2) ≠ some w8.heap.size := by
              intro h
              simp [Value.ownBlock] at h
              have h1 := kr5.2 gg rfl
              have h2 := kB5.2
              rw [h] at h1
              omega
            have y6 : Ext own5 own5 [F + 4] w5 (w5.setCell ⟨w8.heap.size, 5, none⟩ (.slice (some ⟨gg, 0, none⟩) (j + 1) cp2)) := (Ext.refl own5 [F + 4] w5).setCell _ _ (fun _ => by show own5 w8.heap.size ∈ _; rw [kB5.2]; simp)
            have kB6 := Blk.set kB5 5 (.slice (some ⟨gg, 0, none⟩) (j + 1) cp2)
            have hr6 := kr5.far (p := ⟨w8.heap.size, 5, none⟩) hne (.slice (some ⟨gg, 0, none⟩) (j + 1) cp2)
            have hsub : ∀ i ∈ [idg, idv], i ∈ [idg, idv, F + 3, F + 4] := by intro i hi; simp only [List.mem_cons, List.not_mem_nil, or_false] at hi ⊢; omega
            have X6 := ((HI.out.1.trans (x3.mono hsub)).trans (xe5.mono (jds := [idg, idv, F + 3, F + 4]) (by simp))).trans (y6.mono (jds := [idg, idv, F + 3, F + 4]) (by simp))
            have hTo : ∀ z ∈ lt, TmS own5 (w5.setCell ⟨w8.heap.size, 5, none⟩ (.slice (some ⟨gg, 0, none⟩) (j + 1) cp2)) z.1 z.2 := fun z hz =>
              TmS.keep y6 (by simp) z.1 _ (TmS.keep xe5 (by simp) z.1 _ (TmS.keep x3 HF6.out.2.2.1 z.1 _ (HI.out.2.2.1 z hz)))
            have hp6 := (hpost.keep xe5 HF6.out.2.2.2.1 HF6.out.2.2.2.2.2.1 (by simp)).keep y6 HF6.out.2.2.2.2.1 HF6.out.2.2.2.2.2.2.1 (by simp)
            have e2 : termCells (lt ++ [(tm, Value.slice A3 l3 cp3)]) = termCells lt ++ cellsT tm (.slice A3 l3 cp3) := by rw [termCells_append]; simp [termCells]
            have HF := Lib.hid (And.intro X6 (And.intro kB6 (And.intro hr6 (And.intro hTo (And.intro hp6 e2)))))
            clear X6 kB6 hr6 hTo hp6 hne y6 kr5 xe5 ko5 kb5 kB5 x3 hpost HAPP hr3 kB3
            go_wp2_with fail
            go_roundw
            case measure => simp [intOf]; omega
            refine ⟨j + 1, own5, .slice (some ⟨gg, 0, none⟩) (j + 1) cp2, by go_num, by omega, HF.out.1, HF.out.2.1, ?_⟩
            have hga := HI.out.2.2.2.1
            have hbR := HI.out.2.2.2.2
            have hp := HF.out.2.2.2.2.1
            unfold RPost at hp
            by_cases hR0 : R.1 = 0
            · rw [if_pos hR0] at hp
              obtain ⟨hb7, hM7, rfl, hT7⟩ := hp
              rw [if_neg (by simpa using hR0)] at hga
              refine Or.inl ⟨lt ++ [(un R.2.1, .slice A3 l3 cp3)], R.2.2.1, R.2.2.2, cts ++ [R.2.1], by simp [hltj], ?_, ?_, hb7, hM7, hbR.1, hbR.2, ?_, ?_⟩
              · rw [HF.out.2.2.2.2.2]; exact HF.out.2.2.1
              · intro z hz
                rcases List.mem_append.1 hz with hz | hz
                · exact HF.out.2.2.2.1 z hz
                · simp at hz; subst hz; exact hT7
              · rw [List.map_append, List.map_append, HI.out.2.1]; rfl
              · rw [hga]; simp
            · rw [if_neg hR0] at hp
              rw [if_pos hR0] at hga
              obtain ⟨n7, hb7⟩ := hp
              have hGG := HCC.out.2.2.2
              rw [hga] at hGG
              simp only [ne_eq, hR0, not_false_eq_true, if_true] at hGG
              have hG1 : G.1 = R.1 := by rw [← hGG]; rfl
              exact Or.inr ⟨⟨_, _, _, rfl⟩, n7, by rw [hG1]; exact hb7, by rw [hG1]; exact hR0⟩
          · have hjN : j = N := by omega
            subst hjN
            subst hltj
            rw [List.drop_eq_nil_of_le (by rw [HCC.out.1]; exact Nat.le_refl _)] at hga
            have hGG := HCC.out.2.2.2
            rw [hga] at hGG
            simp only [getArgs, List.append_nil, ne_eq, not_true_eq_false, if_false] at hGG
            subst hGG
            obtain ⟨own9, A9, cap9, rfl, hL9, ho9, hx9⟩ := hr.terms hTl
            have hfin : TmS own9 wr (un (.comp sn0 cts)) (.slice A9 lt.length cap9) := by
              show TmS own9 wr (.mk 5 sn0 0 0 0 (uns cts)) _
              rw [uns_map, ← hmap]
              exact hL9.comp ⟨by decide, by decide, by decide, by decide, HSN.out.2⟩
            have X9 : Ext own own9 [idg, idv] w wr := by
              have x0 := (H12.out.2.2.1.mono (jds := [idg, idv, F + 3, F + 4]) (by intro i hi; simp only [List.mem_cons, List.not_mem_nil, or_false] at hi ⊢; omega)).trans x
              have x1 := hx9 own _ w x0 (fun b hb => by have := HFF.out b hb; omega)
              exact ⟨x1.os, x1.tape, x1.output, x1.size, x1.own, fun b hb hn => x1.block b hb (by have := HFF.out b hb; simp at hn ⊢; omega)⟩
            have kZ9 : Blk own9 F wr w.heap.size [.int .i64 0, .string { data := #[] }, .int .i64 0, .int .u64 0, .int .u64 0, .slice none 0 0] 25 := by
              have z := H12.out.2.1.keep x HF6.out.2.2.2.2.2.2.2.2.1
              exact ⟨z.1, by rw [ho9 _ (by rw [z.2]; omega)]; exact z.2⟩
            have hb9 : GB own9 idg wr g ph pa pm n' 0 := ⟨hb'.1, by rw [ho9 _ (by rw [hb'.2]; exact HF6.out.2.2.2.2.2.2.2.2.2.2.2.1)]; exact hb'.2⟩
            have hM9 : RM own9 idv wr pm (numV P' 0) := by
              obtain ⟨Dm, ⟨m1, m2⟩, m3⟩ := hM'
              exact ⟨Dm, ⟨m1, by rw [ho9 _ (by rw [m2]; exact HF6.out.2.2.2.2.2.2.2.2.2.2.2.2.1)]; exact m2⟩, m3⟩
            have f0 := kO.cell 0 rfl; have f1 := kO.cell 1 rfl; have f2 := kO.cell 2 rfl; have f3 := kO.cell 3 rfl; have f4 := kO.cell 4 rfl; have f5 := kO.cell 5 rfl
            have b0 := kZ9.cell 0 rfl; have b1 := kZ9.cell 1 rfl; have b2 := kZ9.cell 2 rfl; have b3 := kZ9.cell 3 rfl; have b4 := kZ9.cell 4 rfl; have b5 := kZ9.cell 5 rfl; have bf0 := kZ9.free 0; have bf1 := kZ9.free 1; have bf2 := kZ9.free 2; have bf3 := kZ9.free 3; have bf4 := kZ9.free 4; have bf5 := kZ9.free 5
            have HE := Lib.hid (store_resI (v0 := .int .i64 5) (v1 := .string sn0) (v2 := .int .i64 0) (v3 := .int .u64 0) (v4 := .int .u64 0) (v5 := .slice A9 lt.length cap9) X9 (Nat.le_refl _) kZ9)
            have HFI := Lib.hid (And.intro hfin (And.intro hb9 hM9))
            clear hfin hb9 hM9 X9 kZ9 hL9 ho9 hx9 hga hmap hTl hr x kO hb' hM' hn' hP'
            go_wp2_with fail
            (try simp only [Exit.inBlock, Exit.then])
            refine bodyPost_ret (v := .agg #[.int .i64 5, .string sn0, .int .i64 0, .int .u64 0, .int .u64 0, .slice A9 lt.length cap9]) ?_ rfl ?_
            · rw [results_cell1 rfl]
              have kk := HE.out.2.2
              have z0 := kk.cell 0 rfl
              have z1 := kk.cell 1 rfl
              have z2 := kk.cell 2 rfl
              have z3 := kk.cell 3 rfl
              have z4 := kk.cell 4 rfl
              have z5 := kk.cell 5 rfl
              go_simp
              try rfl
            · exact ⟨own9, HE.out.1, RGetEnd.good (c := .comp sn0 cts) (Blk.keep HFI.out.2.1 HE.out.2.1 HF1.out.2.1) (HFI.out.2.2.keep HE.out.2.1 HF1.out.2.2.1) (TmS.keep HE.out.2.1 HF1.out.2.2.2.1 _ _ HFI.out.1)⟩
        · have g4 := Blk.cell hb' 4 rfl
          have hne : (G.1 == 0) = false := by simpa using hg0
          have X9 : Ext own own' [idg, idv] w wr := by
            have x1 := (H12.out.2.2.1.mono (jds := [idg, idv, F + 3, F + 4]) (by intro i hi; simp only [List.mem_cons, List.not_mem_nil, or_false] at hi ⊢; omega)).trans x
            exact ⟨x1.os, x1.tape, x1.output, x1.size, x1.own, fun b hb hn => x1.block b hb (by have := HFF.out b hb; simp at hn ⊢; omega)⟩
          have kZ9 : Blk own' F wr w.heap.size [.int .i64 0, .string { data := #[] }, .int .i64 0, .int .u64 0, .int .u64 0, .slice none 0 0] 25 := H12.out.2.1.keep x HF6.out.2.2.2.2.2.2.2.2.1
          have f0 := kO.cell 0 rfl; have f1 := kO.cell 1 rfl; have f2 := kO.cell 2 rfl; have f3 := kO.cell 3 rfl; have f4 := kO.cell 4 rfl; have f5 := kO.cell 5 rfl
          have b0 := kZ9.cell 0 rfl; have b1 := kZ9.cell 1 rfl; have b2 := kZ9.cell 2 rfl; have b3 := kZ9.cell 3 rfl; have b4 := kZ9.cell 4 rfl; have b5 := kZ9.cell 5 rfl; have bf0 := kZ9.free 0; have bf1 := kZ9.free 1; have bf2 := kZ9.free 2; have bf3 := kZ9.free 3; have bf4 := kZ9.free 4; have bf5 := kZ9.free 5
          have HE := Lib.hid (store_resI (v0 := .int .i64 5) (v1 := .string sn0) (v2 := .int .i64 0) (v3 := .int .u64 0) (v4 := .int .u64 0) (v5 := .slice A9 l9 cap9) X9 (Nat.le_refl _) kZ9)
          have HFI := Lib.hid (And.intro hb' hg0)
          clear X9 kZ9 x kO hb' hg0
          by_cases hlt : j < N
          · have hlt2 : decide (j < N) = true := decide_eq_true hlt
            go_wp2_with fail
            (try simp only [Exit.inBlock, Exit.then])
            refine bodyPost_ret (v := .agg #[.int .i64 5, .string sn0, .int .i64 0, .int .u64 0, .int .u64 0, .slice A9 l9 cap9]) ?_ rfl ?_
            · rw [results_cell1 rfl]
              have kk := HE.out.2.2
              have z0 := kk.cell 0 rfl
              have z1 := kk.cell 1 rfl
              have z2 := kk.cell 2 rfl
              have z3 := kk.cell 3 rfl
              have z4 := kk.cell 4 rfl
              have z5 := kk.cell 5 rfl
              go_simp
              try rfl
            · exact ⟨own', HE.out.1, RGetEnd.fail (Blk.keep HFI.out.1 HE.out.2.1 HF1.out.2.1) HFI.out.2⟩
          · have hlt2 : decide (j < N) = false := decide_eq_false hlt
            go_wp2_with fail
            (try simp only [Exit.inBlock, Exit.then])
            refine bodyPost_ret (v := .agg #[.int .i64 5, .string sn0, .int .i64 0, .int .u64 0, .int .u64 0, .slice A9 l9 cap9]) ?_ rfl ?_
            · rw [results_cell1 rfl]
              have kk := HE.out.2.2
              have z0 := kk.cell 0 rfl
              have z1 := kk.cell 1 rfl
              have z2 := kk.cell 2 rfl
              have z3 := kk.cell 3 rfl
              have z4 := kk.cell 4 rfl
              have z5 := kk.cell 5 rfl
              go_simp
              try rfl
            · exact ⟨own', HE.out.1, RGetEnd.fail (Blk.keep HFI.out.1 HE.out.2.1 HF1.out.2.1) HFI.out.2⟩
    · have hok : compOk l L (D / 8).toNat = false := by
        unfold compOk
        rw [hy0, hAA, show decide (AA < (L.length : Int)) = false from decide_eq_false hat]
        simp
      rw [if_neg (by rw [hok]; decide)] at hG
      subst hG
      have HAT := Lib.hid (show (L.length : Int) ≤ AA ∧ AA < 18446744073709551616 by omega)
      have h0N : 0 < N := by omega
      have h0N2 : decide (0 < N) = true := decide_eq_true h0N
      clear hfo hfo' hy0 hyr hAA hN hfv hat hok hleaf h2000
      go_enter Try.func95, Try.ntmps95
      go_wp2_with (first
        | (go_at_call 113; refine Calls.mono HD.out ?_; rintro e w9 ⟨rfl, n5, rfl⟩; have xd := (Ext.refl o1 [] W2).drewN n5; have kZ5 := HB.out.1.keep xd (by simp); have x5 := HB.out.2.1.trans (xd.mono (jds := [idg, idv]) (by simp)); have hM5 : RM o1 idv (W2.drewN n5) pm (numV P 0) := HB.out.2.2.1.keep xd (by simp); have hb5 : GB o1 idg (W2.drewN n5) g ph pa pm ((n : Int) + 1) 0 := Blk.keep HB.out.2.2.2.1 xd (by simp); have ha5 : RAP o1 ida (W2.drewN n5) pa L := HB.out.2.2.2.2.1.keep xd (by simp); have hh5 : RH o1 idh (W2.drewN n5) ph most l := HB.out.2.2.2.2.2.keep xd (by simp); obtain ⟨W5, hW5⟩ : ∃ W, W2.drewN n5 = W := ⟨_, rfl⟩; rw [hW5] at kZ5 x5 hM5 hb5 ha5 hh5 ⊢; have b0 := kZ5.cell 0 rfl; have b1 := kZ5.cell 1 rfl; have b2 := kZ5.cell 2 rfl; have b3 := kZ5.cell 3 rfl; have b4 := kZ5.cell 4 rfl; have b5 := kZ5.cell 5 rfl; have bf0 := kZ5.free 0; have bf1 := kZ5.free 1; have bf2 := kZ5.free 2; have bf3 := kZ5.free 3; have bf4 := kZ5.free 4; have bf5 := kZ5.free 5; have gp0 := Blk.cell hb5 0 rfl; have gp1 := Blk.cell hb5 1 rfl; have gp2 := Blk.cell hb5 2 rfl; have gp3 := Blk.cell hb5 3 rfl; have gp4 := Blk.cell hb5 4 rfl; have gpf4 := Blk.free hb5 4)
        | (go_at_call 132; refine (HVA.out _).mono ?_; rintro e w9 ⟨rfl, hw9⟩; rw [hw9]; clear hw9)
        | (go_at_call 133; refine (HT.out _).mono ?_; rintro e w9 ⟨rfl, hw9⟩; rw [hw9]; clear hw9)
        | (go_at_call 138; refine Calls.mono (by have z := rfun_any o1 idh ph most l W5 hh5 D HR.out.1.1 HR.out.1.2 HR.out.2.2.1; rw [HFN.out] at z; exact z) ?_; rintro e w9 ⟨rfl, n6, rfl⟩; have xe := (Ext.refl o1 [] W5).drewN n6; have kZ7 := kZ5.keep xe (by simp); have x7 := x5.trans (xe.mono (jds := [idg, idv]) (by simp)); have hb7 : GB o1 idg (W5.drewN n6) g ph pa pm ((n : Int) + 1) 0 := Blk.keep hb5 xe (by simp); have hM7 : RM o1 idv (W5.drewN n6) pm (numV P 0) := hM5.keep xe (by simp); have ha7 := ha5.keep xe (by simp); have hh7 := hh5.keep xe (by simp); obtain ⟨W7, hW7⟩ : ∃ W, W5.drewN n6 = W := ⟨_, rfl⟩; rw [hW7] at kZ7 x7 hb7 hM7 ha7 hh7 ⊢; have b0 := kZ7.cell 0 rfl; have b1 := kZ7.cell 1 rfl; have b2 := kZ7.cell 2 rfl; have b3 := kZ7.cell 3 rfl; have b4 := kZ7.cell 4 rfl; have b5 := kZ7.cell 5 rfl; have bf0 := kZ7.free 0; have bf1 := kZ7.free 1; have bf2 := kZ7.free 2; have bf3 := kZ7.free 3; have bf4 := kZ7.free 4; have bf5 := kZ7.free 5; have ep0 := Blk.cell hb7 0 rfl; have ep1 := Blk.cell hb7 1 rfl; have ep2 := Blk.cell hb7 2 rfl; have ep3 := Blk.cell hb7 3 rfl; have ep4 := Blk.cell hb7 4 rfl; have epf4 := Blk.free hb7 4)
        | (go_at_call 135; refine Calls.mono (rname_out o1 idg ida W7 g ph pa pm _ 0 AA L hb7 ha7 (by have := HAT.out.1; omega) (by have := HAT.out.2; omega) HR.out.2.2.2.2.1) ?_; rintro e w8 ⟨own8, x8, rfl, hb8⟩; have kZ8 := kZ7.keep x8 HF1.out.1; have x78 := x7.trans (x8.mono (jds := [idg, idv]) (by simp))))
      obtain ⟨W12, hW12⟩ : ∃ W, w8.alloc (.cells #[.int .i64 5, .string ByteArray.empty, .int .i64 0, .int .u64 0, .int .u64 0, .slice none 0 0] 25) = W := ⟨_, rfl⟩
      obtain ⟨o12, x12, kO, y12⟩ := boxV x78 [.int .i64 5, .string ByteArray.empty, .int .i64 0, .int .u64 0, .int .u64 0, .slice none 0 0] 25 (F + 4) W12 hW12
      rw [hW12]
      clear hW12
      have kZ12 := kZ8.keep y12 (by simp)
      have hb12 : GB o12 idg W12 g ph pa pm ((n : Int) + 1) 2 := Blk.keep hb8 y12 (by simp)
      have h12_0 := Blk.cell hb12 0 rfl
      have h12_4 := Blk.cell hb12 4 rfl
      have o12_0 := kO.cell 0 rfl
      have o12_1 := kO.cell 1 rfl
      have o12_2 := kO.cell 2 rfl
      have o12_3 := kO.cell 3 rfl
      have o12_4 := kO.cell 4 rfl
      have o12_5 := kO.cell 5 rfl
      have b0 := kZ12.cell 0 rfl
      have b1 := kZ12.cell 1 rfl
      have b2 := kZ12.cell 2 rfl
      have b3 := kZ12.cell 3 rfl
      have b4 := kZ12.cell 4 rfl
      have b5 := kZ12.cell 5 rfl
      have bf0 := kZ12.free 0
      have bf1 := kZ12.free 1
      have bf2 := kZ12.free 2
      have bf3 := kZ12.free 3
      have bf4 := kZ12.free 4
      have bf5 := kZ12.free 5
      go_loopw [14] (fun u wr => u = .int .i64 0 ∧ wr = W12) (fun u _ => 0)
      case atStart => exact ⟨rfl, rfl⟩
      case round =>
        obtain ⟨rfl, rfl⟩ := hrel
        go_wp2_with fail
        have HE := Lib.hid (store_resI (v0 := .int .i64 5) (v1 := .string ByteArray.empty) (v2 := .int .i64 0) (v3 := .int .u64 0) (v4 := .int .u64 0) (v5 := .slice none 0 0) x12 (Nat.le_refl _) kZ12)
        (try simp only [Exit.inBlock, Exit.then])
        refine bodyPost_ret (v := .agg #[.int .i64 5, .string ByteArray.empty, .int .i64 0, .int .u64 0, .int .u64 0, .slice none 0 0]) ?_ rfl ?_
        · rw [results_cell1 rfl]
          have kk := HE.out.2.2
          have z0 := kk.cell 0 rfl
          have z1 := kk.cell 1 rfl
          have z2 := kk.cell 2 rfl
          have z3 := kk.cell 3 rfl
          have z4 := kk.cell 4 rfl
          have z5 := kk.cell 5 rfl
          go_simp
          try rfl
        · exact ⟨o12, HE.out.1, RGetEnd.bad (er := 2) (Blk.keep hb12 HE.out.2.1 HF1.out.2.1) (by decide)⟩
  · have hfo' : funOk l (D / 8).toNat = false := by simpa using hfo
    have hok : compOk l L (D / 8).toNat = false := by
      unfold funOk at hfo'
      unfold compOk
      simp only [Bool.and_eq_false_iff, decide_eq_false_iff_not] at hfo' ⊢
      omega
    rw [if_neg (by rw [hok]; decide)] at hG
    subst hG
    have HFN := Lib.hid (funV_no hfo')
    clear hfo hfo' hok hleaf h2000
    go_enter Try.func95, Try.ntmps95
    go_wp2_with (first
      | (go_at_call 113; refine Calls.mono HD.out ?_; rintro e w9 ⟨rfl, n5, rfl⟩; have xd := (Ext.refl o1 [] W2).drewN n5; have kZ5 := HB.out.1.keep xd (by simp); have x5 := HB.out.2.1.trans (xd.mono (jds := [idg, idv]) (by simp)); have hM5 : RM o1 idv (W2.drewN n5) pm (numV P 0) := HB.out.2.2.1.keep xd (by simp); have hb5 : GB o1 idg (W2.drewN n5) g ph pa pm ((n : Int) + 1) 0 := Blk.keep HB.out.2.2.2.1 xd (by simp); have ha5 : RAP o1 ida (W2.drewN n5) pa L := HB.out.2.2.2.2.1.keep xd (by simp); have hh5 : RH o1 idh (W2.drewN n5) ph most l := HB.out.2.2.2.2.2.keep xd (by simp); obtain ⟨W5, hW5⟩ : ∃ W, W2.drewN n5 = W := ⟨_, rfl⟩; rw [hW5] at kZ5 x5 hM5 hb5 ha5 hh5 ⊢; have b0 := kZ5.cell 0 rfl; have b1 := kZ5.cell 1 rfl; have b2 := kZ5.cell 2 rfl; have b3 := kZ5.cell 3 rfl; have b4 := kZ5.cell 4 rfl; have b5 := kZ5.cell 5 rfl; have bf0 := kZ5.free 0; have bf1 := kZ5.free 1; have bf2 := kZ5.free 2; have bf3 := kZ5.free 3; have bf4 := kZ5.free 4; have bf5 := kZ5.free 5; have gp0 := Blk.cell hb5 0 rfl; have gp1 := Blk.cell hb5 1 rfl; have gp2 := Blk.cell hb5 2 rfl; have gp3 := Blk.cell hb5 3 rfl; have gp4 := Blk.cell hb5 4 rfl; have gpf4 := Blk.free hb5 4)
      | (go_at_call 132; refine (HVA.out _).mono ?_; rintro e w9 ⟨rfl, hw9⟩; rw [hw9]; clear hw9)
      | (go_at_call 133; refine (HT.out _).mono ?_; rintro e w9 ⟨rfl, hw9⟩; rw [hw9]; clear hw9)
      | (go_at_call 138; refine Calls.mono (by have z := rfun_any o1 idh ph most l W5 hh5 D HR.out.1.1 HR.out.1.2 HR.out.2.2.1; rw [HFN.out] at z; exact z) ?_; rintro e w9 ⟨rfl, n6, rfl⟩; have xe := (Ext.refl o1 [] W5).drewN n6; have kZ7 := kZ5.keep xe (by simp); have x7 := x5.trans (xe.mono (jds := [idg, idv]) (by simp)); have hb7 : GB o1 idg (W5.drewN n6) g ph pa pm ((n : Int) + 1) 0 := Blk.keep hb5 xe (by simp); have hM7 : RM o1 idv (W5.drewN n6) pm (numV P 0) := hM5.keep xe (by simp); have ha7 := ha5.keep xe (by simp); have hh7 := hh5.keep xe (by simp); obtain ⟨W7, hW7⟩ : ∃ W, W5.drewN n6 = W := ⟨_, rfl⟩; rw [hW7] at kZ7 x7 hb7 hM7 ha7 hh7 ⊢; have b0 := kZ7.cell 0 rfl; have b1 := kZ7.cell 1 rfl; have b2 := kZ7.cell 2 rfl; have b3 := kZ7.cell 3 rfl; have b4 := kZ7.cell 4 rfl; have b5 := kZ7.cell 5 rfl; have bf0 := kZ7.free 0; have bf1 := kZ7.free 1; have bf2 := kZ7.free 2; have bf3 := kZ7.free 3; have bf4 := kZ7.free 4; have bf5 := kZ7.free 5; have ep0 := Blk.cell hb7 0 rfl; have ep1 := Blk.cell hb7 1 rfl; have ep2 := Blk.cell hb7 2 rfl; have ep3 := Blk.cell hb7 3 rfl; have ep4 := Blk.cell hb7 4 rfl; have epf4 := Blk.free hb7 4; have yW6 : Ext o1 o1 [idg] W7 (W7.setCell ⟨g, 4, none⟩ (.int .i64 2)) := (Ext.refl o1 [idg] W7).setCell _ _ (fun _ => (by show o1 g ∈ _; rw [hb7.2]; simp)); have hW6 := Blk.set hb7 4 (.int .i64 2); obtain ⟨W6, hqW6⟩ : ∃ W, W7.setCell ⟨g, 4, none⟩ (.int .i64 2) = W := ⟨_, rfl⟩; rw [hqW6] at yW6 hW6; replace hW6 : GB o1 idg W6 g ph pa pm ((n : Int) + 1) 2 := hW6; have kW6 := kZ7.keep yW6 HF1.out.1; have xW6 := x7.trans (yW6.mono (jds := [idg, idv]) (by simp)); have b0 := kW6.cell 0 rfl; have b1 := kW6.cell 1 rfl; have b2 := kW6.cell 2 rfl; have b3 := kW6.cell 3 rfl; have b4 := kW6.cell 4 rfl; have b5 := kW6.cell 5 rfl; have bf0 := kW6.free 0; have bf1 := kW6.free 1; have bf2 := kW6.free 2; have bf3 := kW6.free 3; have bf4 := kW6.free 4; have bf5 := kW6.free 5))
    have HE := Lib.hid (store_resI (v0 := .int .i64 0) (v1 := .string { data := #[] }) (v2 := .int .i64 0) (v3 := .int .u64 0) (v4 := .int .u64 0) (v5 := .slice none 0 0) xW6 (Nat.le_refl _) kW6)
    (try simp only [Exit.inBlock, Exit.then])
    refine bodyPost_ret (v := .agg #[.int .i64 0, .string ByteArray.empty, .int .i64 0, .int .u64 0, .int .u64 0, .slice none 0 0]) ?_ rfl ?_
    · rw [results_cell1 rfl]
      have kk := HE.out.2.2
      have z0 := kk.cell 0 rfl
      have z1 := kk.cell 1 rfl
      have z2 := kk.cell 2 rfl
      have z3 := kk.cell 3 rfl
      have z4 := kk.cell 4 rfl
      have z5 := kk.cell 5 rfl
      go_simp
      try rfl
    · exact ⟨o1, HE.out.1, RGetEnd.bad (er := 2) (Blk.keep hW6 HE.out.2.1 HF1.out.2.1) (by decide)⟩

end Go.Proofs.Ytlmcfclonncgbaa
