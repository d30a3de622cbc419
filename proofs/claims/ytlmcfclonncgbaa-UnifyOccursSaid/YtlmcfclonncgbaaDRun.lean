/- The reader's term, as a whole (package store). -/
import Derived.Test.YtlmcfclonncgbaaDComp
import Derived.Test.YtlmcfclonncgbaaPk7
namespace Go.Proofs.Ytlmcfclonncgbaa
open Go.RowKit
set_option linter.unusedVariables false
set_option linter.unusedSimpArgs false

set_option maxHeartbeats 1600000 in
set_option maxRecDepth 100000 in
theorem dterm_deep (d : Int) (hd : 501 ≤ d) (own : Nat → Nat) (idr idv : Nat) (w : World) (r ph pa pm n : Nat) (c : Int) (P : List Int) (hb : RB own idr w r ph pa pm n) (hM : RM own idv w pm (numV P 0)) :
    Calls Try.prog 92 #[.pointer (some ⟨r, 0, none⟩), .int .u64 c, .int .i64 d] w (Does own [idr, idv] w fun own' e w' => GetEnd own' w' idr idv r ph pa pm (bad 3 n P) e) := by
  obtain ⟨F0, hF0, hFF⟩ := own_ne own w.heap.size
  obtain ⟨F, hF⟩ : ∃ F, F0 + idr + idv + 1 = F := ⟨_, rfl⟩
  obtain ⟨x1, kZ, y1⟩ := (Ext.refl own [idr, idv] w).box [.int .i64 0, .string { data := #[] }, .int .i64 0, .int .u64 0, .int .u64 0, .slice none 0 0] 25 F
  replace hb := Blk.keep hb y1 (by simp)
  replace hM := hM.keep y1 (by simp)
  generalize _root_.Go.Proofs.Ytlmcfclonncgbaa.give own w.heap.size F = o1 at *
  obtain ⟨W1, hW1⟩ : ∃ W1, w.alloc (.cells #[.int .i64 0, .string { data := #[] }, .int .i64 0, .int .u64 0, .int .u64 0, .slice none 0 0] 25) = W1 := ⟨_, rfl⟩
  change Blk o1 _ (w.alloc (.cells #[.int .i64 0, .string { data := #[] }, .int .i64 0, .int .u64 0, .int .u64 0, .slice none 0 0] 25)) _ _ _ at kZ
  change Blk o1 _ (w.alloc (.cells #[.int .i64 0, .string { data := #[] }, .int .i64 0, .int .u64 0, .int .u64 0, .slice none 0 0] 25)) _ _ _ at hb
  change MV o1 _ (w.alloc (.cells #[.int .i64 0, .string { data := #[] }, .int .i64 0, .int .u64 0, .int .u64 0, .slice none 0 0] 25)) _ _ _ _ _ _ _ at hM
  change Ext own o1 _ w (w.alloc (.cells #[.int .i64 0, .string { data := #[] }, .int .i64 0, .int .u64 0, .int .u64 0, .slice none 0 0] 25)) at x1
  rw [hW1] at kZ hb hM x1
  have c3 := Blk.cell hb 3 rfl
  have hFr1 : idr ∉ [F] := by simp; omega
  have hFv1 : idv ∉ [F] := by simp; omega
  have H1 := Lib.hid (And.intro x1 (And.intro hb (And.intro hM (And.intro kZ (And.intro hFr1 hFv1)))))
  have kZ5 := kZ
  have b0 := kZ5.cell 0 rfl; have b1 := kZ5.cell 1 rfl; have b2 := kZ5.cell 2 rfl; have b3 := kZ5.cell 3 rfl; have b4 := kZ5.cell 4 rfl; have b5 := kZ5.cell 5 rfl; have bf0 := kZ5.free 0; have bf1 := kZ5.free 1; have bf2 := kZ5.free 2; have bf3 := kZ5.free 3; have bf4 := kZ5.free 4; have bf5 := kZ5.free 5
  have hd5 : decide ((500 : Int) < d) = true := by simp; omega
  by_cases h2 : ((n : Int) == 2000) = true
  · have hn2 : (n : Int) = 2000 := by simpa using h2
    clear hFF hF hF0 kZ kZ5 hb y1 hM x1
    go_enter Try.func92, Try.ntmps92
    go_wp2_with fail
    have HE := Lib.hid (store_resI (v0 := .int .i64 0) (v1 := .string { data := #[] }) (v2 := .int .i64 0) (v3 := .int .u64 0) (v4 := .int .u64 0) (v5 := .slice none 0 0) H1.out.1 (Nat.le_refl _) H1.out.2.2.2.1)
    (try simp only [Exit.inBlock, Exit.then])
    refine bodyPost_ret (v := .tuple #[.agg #[.int .i64 0, .string ByteArray.empty, .int .i64 0, .int .u64 0, .int .u64 0, .slice none 0 0], .int .i64 3]) ?_ rfl ?_
    · rw [results_cell_tmp rfl]
      have kk := HE.out.2.2
      have z0 := kk.cell 0 rfl
      have z1 := kk.cell 1 rfl
      have z2 := kk.cell 2 rfl
      have z3 := kk.cell 3 rfl
      have z4 := kk.cell 4 rfl
      have z5 := kk.cell 5 rfl
      go_simp
      try rfl
    · exact ⟨o1, HE.out.1, GetEnd.bad (Blk.keep H1.out.2.1 HE.out.2.1 H1.out.2.2.2.2.1) (H1.out.2.2.1.keep HE.out.2.1 H1.out.2.2.2.2.2) (by decide)⟩

  · replace h2 : ((n : Int) == 2000) = false := by simpa using h2
    clear hFF hF hF0 kZ kZ5 hb y1 hM x1
    go_enter Try.func92, Try.ntmps92
    go_wp2_with fail
    have HE := Lib.hid (store_resI (v0 := .int .i64 0) (v1 := .string { data := #[] }) (v2 := .int .i64 0) (v3 := .int .u64 0) (v4 := .int .u64 0) (v5 := .slice none 0 0) H1.out.1 (Nat.le_refl _) H1.out.2.2.2.1)
    (try simp only [Exit.inBlock, Exit.then])
    refine bodyPost_ret (v := .tuple #[.agg #[.int .i64 0, .string ByteArray.empty, .int .i64 0, .int .u64 0, .int .u64 0, .slice none 0 0], .int .i64 3]) ?_ rfl ?_
    · rw [results_cell_tmp rfl]
      have kk := HE.out.2.2
      have z0 := kk.cell 0 rfl
      have z1 := kk.cell 1 rfl
      have z2 := kk.cell 2 rfl
      have z3 := kk.cell 3 rfl
      have z4 := kk.cell 4 rfl
      have z5 := kk.cell 5 rfl
      go_simp
      try rfl
    · exact ⟨o1, HE.out.1, GetEnd.bad (Blk.keep H1.out.2.1 HE.out.2.1 H1.out.2.2.2.2.1) (H1.out.2.2.1.keep HE.out.2.1 H1.out.2.2.2.2.2) (by decide)⟩

theorem drun_any (idr idh ida idm idv : Nat) (hids : IdsG idr idh ida idm idv) (r ph pa pm : Nat) (most : Int) (l : List Int) (L : List ByteArray) (hl0 : ∀ x ∈ l, 0 ≤ x ∧ x < 18446744073709551616) (hll : l.length ≤ 1048576) (hLL : L.length ≤ 4096) : ∀ (fuel : Nat), fuel ≤ 500 → ∀ (own : Nat → Nat) (w : World) (n : Nat) (P : List Int) (c : Int), RB own idr w r ph pa pm n → HP own idh w ph most l → TabP own ida idm w pa L → RM own idv w pm (numV P 0) → 0 ≤ c → c < 18446744073709551616 → n ≤ 2000 → P.length ≤ 998000 + n →
    Calls Try.prog 92 #[.pointer (some ⟨r, 0, none⟩), .int .u64 c, .int .i64 (501 - (fuel : Int))] w (Does own [idr, idv] w fun own' e w' => GetEnd own' w' idr idv r ph pa pm (getF l L fuel c n P) e)
  | 0, _, own, w, n, P, c, hb, hh, ha, hM, h0, h1, hn, hP => by
    unfold getF
    exact dterm_deep _ (by omega) own idr idv w r ph pa pm n c P hb hM
  | fuel + 1, hf, own, w, n, P, c, hb, hh, ha, hM, h0, h1, hn, hP => by
    rw [show (501 : Int) - ((fuel + 1 : Nat) : Int) = ((500 - fuel : Nat) : Int) by omega]
    refine dterm_step fuel (by omega) own idr idh ida idm idv hids w r ph pa pm n most c l P L hb hh ha hM h0 h1 hl0 hll hLL hn hP ?_
    intro own w n P D hb hh ha hM h0 h1 ht hn hP
    refine dcomp_any _ (by omega) (by omega) (getF l L fuel) own idr idh ida idm idv hids w r ph pa pm n most D l P L ?_ hb hh ha hM h0 h1 ht hl0 hll hLL hn hP
    intro own w n P c hb hh ha hM h0 h1 hn hP
    rw [show ((500 - fuel : Nat) : Int) + 1 = 501 - (fuel : Int) by omega]
    have bd := getF_bd l L fuel c n P ⟨hn, hP⟩
    refine (drun_any idr idh ida idm idv hids r ph pa pm most l L hl0 hll hLL fuel (by omega) own w n P c hb hh ha hM h0 h1 hn hP).mono ?_
    rintro e w' ⟨own', x, h⟩
    exact ⟨own', x, h, bd.1, bd.2⟩

end Go.Proofs.Ytlmcfclonncgbaa
