/- The reference's Get (package elenchusref4). -/
import Derived.Test.YtlmcfclonncgbaaRGet3
namespace Go.Proofs.Ytlmcfclonncgbaa
open Go.RowKit
set_option linter.unusedVariables false
set_option linter.unusedSimpArgs false

theorem rget_any (idg idh ida idv : Nat) (hids : IdsR idg idh ida idv) (g ph pa pm : Nat) (most : Int) (l : List Int) (L : List ByteArray) (hl0 : ∀ x ∈ l, 0 ≤ x ∧ x < 18446744073709551616) (hll : l.length ≤ 1048576) (hLL : L.length ≤ 4096) : ∀ (fuel : Nat), fuel ≤ 500 → ∀ (own : Nat → Nat) (w : World) (n : Nat) (P : List Int) (c : Int), GB own idg w g ph pa pm n 0 → RH own idh w ph most l → RAP own ida w pa L → RM own idv w pm (numV P 0) → 0 ≤ c → c < 18446744073709551616 → n ≤ 2000 → P.length ≤ 998000 + n →
    Calls Try.prog 95 #[.pointer (some ⟨g, 0, none⟩), .int .u64 c, .int .i64 (501 - (fuel : Int))] w (Does own [idg, idv] w fun own' e w' => RGetEnd own' w' idg idv g ph pa pm (getF l L fuel c n P) e)
  | 0, _, own, w, n, P, c, hb, hh, ha, hM, h0, h1, hn, hP => by
    unfold getF
    exact rget_long _ own idg idh ida idv hids w g ph pa pm n most c l P L hb hh ha hM h0 h1 hl0 hll hLL hn hP (Or.inr (by omega))
  | fuel + 1, hf, own, w, n, P, c, hb, hh, ha, hM, h0, h1, hn, hP => by
    rw [getF_succ]
    by_cases h2 : n = 2000
    · unfold getB
      rw [if_pos h2]
      exact rget_long _ own idg idh ida idv hids w g ph pa pm n most c l P L hb hh ha hM h0 h1 hl0 hll hLL hn hP (Or.inl h2)
    · by_cases hc : deref l c % 8 = 1
      · refine rget_comp _ (by omega) (by omega) own idg idh ida idv hids w g ph pa pm n most c l P L (getF l L fuel) (getF_bd l L fuel) ?_ hb hh ha hM h0 h1 hl0 hll hLL hn hP h2 hc
        intro own w n P c hb hh ha hM h0 h1 hn hP
        rw [show (501 : Int) - ((fuel + 1 : Nat) : Int) + 1 = 501 - (fuel : Int) by omega]
        exact rget_any idg idh ida idv hids g ph pa pm most l L hl0 hll hLL fuel (by omega) own w n P c hb hh ha hM h0 h1 hn hP
      · exact rget_leaf _ (by omega) own idg idh ida idv hids w g ph pa pm n most c l P L (getF l L fuel) hb hh ha hM h0 h1 hl0 hll hLL hn hP h2 hc
theorem cellq_drew (W : World) (p : Addr) : W.drew.cell? p = W.cell? p := rfl
set_option maxHeartbeats 1000000 in
set_option maxRecDepth 100000 in
theorem r4get_new (own : Nat → Nat) (idh ida idv : Nat) (hv0 : idv ≠ 0) (hvh : idv ≠ idh) (hva : idv ≠ ida) (w : World) (ph pa : Nat) (most c : Int) (l : List Int) (L : List ByteArray) (hh : RH own idh w ph most l) (ha : RAP own ida w pa L) (hc0 : 0 ≤ c) (hc1 : c < 18446744073709551616) (hl0 : ∀ x ∈ l, 0 ≤ x ∧ x < 18446744073709551616) (hll : l.length ≤ 1048576) (hLL : L.length ≤ 4096) :
    Calls Try.prog 48 #[.pointer (some ⟨ph, 0, none⟩), .pointer (some ⟨pa, 0, none⟩), .int .u64 c, .map none] w (Does own [idv] w fun own' e w' => GotEnd own' w' (getF l L 500 c 0 []) e) := by
  obtain ⟨F0, hF0, hFF⟩ := own_ne own w.heap.size
  obtain ⟨F, hF⟩ : ∃ F, F0 + idh + ida + idv + 1 = F := ⟨_, rfl⟩
  obtain ⟨x1, kZ, y1⟩ := (Ext.refl own [F + 1, idv] w).box [.int .i64 0, .string { data := #[] }, .int .i64 0, .int .u64 0, .int .u64 0, .slice none 0 0] 25 F
  replace hh := hh.keep y1 (by simp)
  replace ha := ha.keep y1 (by simp)
  generalize _root_.Go.Proofs.Ytlmcfclonncgbaa.give own w.heap.size F = o1 at *
  obtain ⟨W1, hW1⟩ : ∃ W1, w.alloc (.cells #[.int .i64 0, .string { data := #[] }, .int .i64 0, .int .u64 0, .int .u64 0, .slice none 0 0] 25) = W1 := ⟨_, rfl⟩
  change Blk o1 _ (w.alloc (.cells #[.int .i64 0, .string { data := #[] }, .int .i64 0, .int .u64 0, .int .u64 0, .slice none 0 0] 25)) _ _ _ at kZ
  change RH o1 _ (w.alloc (.cells #[.int .i64 0, .string { data := #[] }, .int .i64 0, .int .u64 0, .int .u64 0, .slice none 0 0] 25)) _ _ _ at hh
  change RAP o1 _ (w.alloc (.cells #[.int .i64 0, .string { data := #[] }, .int .i64 0, .int .u64 0, .int .u64 0, .slice none 0 0] 25)) _ _ at ha
  change Ext own o1 _ w (w.alloc (.cells #[.int .i64 0, .string { data := #[] }, .int .i64 0, .int .u64 0, .int .u64 0, .slice none 0 0] 25)) at x1
  rw [hW1] at kZ hh ha x1
  obtain ⟨z2, hM⟩ := MV.new o1 idv W1 Try.prog .i64 .i64 3 2
  replace hh := hh.keep z2 (by simp)
  replace ha := ha.keep z2 (by simp)
  replace kZ := kZ.keep z2 (by simp)
  replace x1 := x1.trans (z2.mono (by simp))
  generalize _root_.Go.Proofs.Ytlmcfclonncgbaa.give o1 W1.heap.size idv = o2 at *
  obtain ⟨W2, hW2⟩ : ∃ W, W1.alloc (.map #[] 0) = W := ⟨_, rfl⟩
  rw [hW2] at kZ hh ha x1 hM
  obtain ⟨W3, hW3⟩ : ∃ W, W2.alloc (.cells #[.pointer (some ⟨ph, 0, none⟩), .pointer (some ⟨pa, 0, none⟩), .map (some W1.heap.size), .int .i64 0, .int .i64 0] 145) = W := ⟨_, rfl⟩
  obtain ⟨o3, x3, kG, y3⟩ := boxV x1 [.pointer (some ⟨ph, 0, none⟩), .pointer (some ⟨pa, 0, none⟩), .map (some W1.heap.size), .int .i64 0, .int .i64 0] 145 (F + 1) W3 hW3
  replace hh := hh.keep y3 (by simp)
  replace ha := ha.keep y3 (by simp)
  replace hM := hM.keep y3 (by simp)
  replace kZ := kZ.keep y3 (by simp)
  have hcall := rget_any (F + 1) idh ida idv (by constructor <;> omega) W2.heap.size ph pa W1.heap.size most l L hl0 hll hLL 500 (Nat.le_refl _) o3 W3 0 [] c kG hh ha hM hc0 hc1 (by decide) (by decide)
  rw [show (501 : Int) - ((500 : Nat) : Int) = 1 from rfl] at hcall
  have HC := Lib.hid hcall
  have hlt : ∀ b, b < w.heap.size → own b < F + 1 := fun b hb => by have := hFF b hb; omega
  have HX := Lib.hid (And.intro kZ (And.intro x3 (And.intro hlt (show F ∉ [F + 1, idv] ∧ 0 ∉ [F] ∧ idv ∉ [F] ∧ F + 1 ∉ [F] by simp; omega))))
  obtain ⟨G, hG⟩ : ∃ G, getF l L 500 c 0 [] = G := ⟨_, rfl⟩
  rw [hG]
  have HG := Lib.hid hG
  clear hcall hG x3 kG y3 kZ hh ha hM x1 y1 hFF hF hF0 hlt hc0 hc1 hl0 hll hLL hv0 hvh hva z2
  have hmm := @run_makeMap Try.prog
  have hen := eqlI_map_nil
  by_cases hg : G.1 = 0
  · have HG0 := Lib.hid hg
    clear hg
    go_enter Try.func48, Try.ntmps48
    go_wp2_with (go_at_call 95; refine Calls.mono HC.out ?_; rintro e w9 ⟨own9, x9, hE⟩; rw [HG.out] at hE; unfold RGetEnd at hE; rw [if_pos HG0.out] at hE; obtain ⟨hb9, hM9, A9, l9, cp9, hee, hT9⟩ := hE; obtain rfl : e = .returned (.agg #[.int .i64 (un G.2.1).kind, .string (un G.2.1).name, .int .i64 (un G.2.1).int, .int .u64 (un G.2.1).re, .int .u64 (un G.2.1).im, .slice A9 l9 cp9]) := hee; obtain ⟨W10, hW10⟩ : ∃ W, w9.alloc (.cells #[.int .i64 (un G.2.1).kind, .string (un G.2.1).name, .int .i64 (un G.2.1).int, .int .u64 (un G.2.1).re, .int .u64 (un G.2.1).im, .slice A9 l9 cp9] 25) = W := ⟨_, rfl⟩; have kZ9 := HX.out.1.keep x9 HX.out.2.2.2.1; have x59 : Ext own own9 [idv] w w9 := (HX.out.2.1.trans x9).without (F + 1) HX.out.2.2.1 (by intro i hi; simpa using hi); obtain ⟨own10, x10, kE, y10⟩ := boxV x59 [.int .i64 (un G.2.1).kind, .string (un G.2.1).name, .int .i64 (un G.2.1).int, .int .u64 (un G.2.1).re, .int .u64 (un G.2.1).im, .slice A9 l9 cp9] 25 0 W10 hW10; have kZ10 := kZ9.keep y10 (by simp); have hb10 := Blk.keep hb9 y10 (by simp); have gp4 := Blk.cell hb10 4 rfl; have e0 := kE.cell 0 rfl; have e1 := kE.cell 1 rfl; have e2 := kE.cell 2 rfl; have e3 := kE.cell 3 rfl; have e4 := kE.cell 4 rfl; have e5 := kE.cell 5 rfl; have b0 := kZ10.cell 0 rfl; have b1 := kZ10.cell 1 rfl; have b2 := kZ10.cell 2 rfl; have b3 := kZ10.cell 3 rfl; have b4 := kZ10.cell 4 rfl; have b5 := kZ10.cell 5 rfl; have bf0 := kZ10.free 0; have bf1 := kZ10.free 1; have bf2 := kZ10.free 2; have bf3 := kZ10.free 3; have bf4 := kZ10.free 4; have bf5 := kZ10.free 5)
    have HE := Lib.hid (store_resI (v0 := .int .i64 (un G.2.1).kind) (v1 := .string (un G.2.1).name) (v2 := .int .i64 (un G.2.1).int) (v3 := .int .u64 (un G.2.1).re) (v4 := .int .u64 (un G.2.1).im) (v5 := .slice A9 l9 cp9) x10 (Nat.le_refl _) kZ10)
    (try simp only [Exit.inBlock, Exit.then])
    refine bodyPost_ret (v := .tuple #[.agg #[.int .i64 (un G.2.1).kind, .string (un G.2.1).name, .int .i64 (un G.2.1).int, .int .u64 (un G.2.1).re, .int .u64 (un G.2.1).im, .slice A9 l9 cp9], .int .i64 0]) ?_ rfl ?_
    · rw [results_cell_tmp rfl]
      have kk := HE.out.2.2
      have z0 := kk.cell 0 rfl
      have z1 := kk.cell 1 rfl
      have z2 := kk.cell 2 rfl
      have z3 := kk.cell 3 rfl
      have z4 := kk.cell 4 rfl
      have z5 := kk.cell 5 rfl
      go_simp
      try rfl
    · exact ⟨own10, HE.out.1, GotEnd.good HG0.out (TmS.keep HE.out.2.1 HX.out.2.2.2.2.1 _ _ (TmS.keep y10 (by simp) _ _ hT9))⟩
  · have HG0 := Lib.hid hg
    have hgb : (G.1 != 0) = true := by simpa using hg
    clear hg
    go_enter Try.func48, Try.ntmps48
    go_wp2_with (go_at_call 95; refine Calls.mono HC.out ?_; rintro e w9 ⟨own9, x9, hE⟩; rw [HG.out] at hE; obtain ⟨tm, A9, l9, cp9, rfl, hpost⟩ := RGetEnd.post hE; unfold RPost at hpost; rw [if_neg HG0.out] at hpost; obtain ⟨n9, hb9⟩ := hpost; obtain ⟨W10, hW10⟩ : ∃ W, w9.alloc (.cells #[.int .i64 tm.kind, .string tm.name, .int .i64 tm.int, .int .u64 tm.re, .int .u64 tm.im, .slice A9 l9 cp9] 25) = W := ⟨_, rfl⟩; have kZ9 := HX.out.1.keep x9 HX.out.2.2.2.1; have x59 : Ext own own9 [idv] w w9 := (HX.out.2.1.trans x9).without (F + 1) HX.out.2.2.1 (by intro i hi; simpa using hi); obtain ⟨own10, x10, kE, y10⟩ := boxV x59 [.int .i64 tm.kind, .string tm.name, .int .i64 tm.int, .int .u64 tm.re, .int .u64 tm.im, .slice A9 l9 cp9] 25 0 W10 hW10; have kZ10 := kZ9.keep y10 (by simp); have hb10 := Blk.keep hb9 y10 (by simp); have gp4 := Blk.cell hb10 4 rfl; have e0 := kE.cell 0 rfl; have e1 := kE.cell 1 rfl; have e2 := kE.cell 2 rfl; have e3 := kE.cell 3 rfl; have e4 := kE.cell 4 rfl; have e5 := kE.cell 5 rfl; have b0 := kZ10.cell 0 rfl; have b1 := kZ10.cell 1 rfl; have b2 := kZ10.cell 2 rfl; have b3 := kZ10.cell 3 rfl; have b4 := kZ10.cell 4 rfl; have b5 := kZ10.cell 5 rfl; have bf0 := kZ10.free 0; have bf1 := kZ10.free 1; have bf2 := kZ10.free 2; have bf3 := kZ10.free 3; have bf4 := kZ10.free 4; have bf5 := kZ10.free 5)
    have HE := Lib.hid (store_resI (v0 := .int .i64 0) (v1 := .string { data := #[] }) (v2 := .int .i64 0) (v3 := .int .u64 0) (v4 := .int .u64 0) (v5 := .slice none 0 0) x10 (Nat.le_refl _) kZ10)
    have gp5 := Blk.cell (Blk.keep hb10 HE.out.2.1 HX.out.2.2.2.2.2.2) 4 rfl
    have HS5 : (((((((W10).setCell ⟨w.heap.size, 0, none⟩ (.int .i64 0)).setCell ⟨w.heap.size, 1, none⟩ (.string { data := #[] })).setCell ⟨w.heap.size, 2, none⟩ (.int .i64 0)).setCell ⟨w.heap.size, 3, none⟩ (.int .u64 0)).setCell ⟨w.heap.size, 4, none⟩ (.int .u64 0)).setCell ⟨w.heap.size, 5, none⟩ (.slice none 0 0)).drew.cell? ⟨W2.heap.size, 4, none⟩ = some (.int .i64 G.1) := (cellq_drew _ _).trans gp5
    clear hW10 gp5
    refine wp_calmN ?_
    refine wp_region_till 6 (fun W => W.cell? ⟨W2.heap.size, 4, none⟩ = some (.int .i64 G.1)) (by kernel_rfl) ?_
    have HS : W10.drew.cell? ⟨W2.heap.size, 4, none⟩ = some (.int .i64 G.1) := gp4
    refine wpTill_free 0 (v := ?_) rfl (by kernel_rfl) (by kernel_rfl) (by kernel_rfl) (by kernel_rfl) (fun _ _ _ h => h) rfl (fun _ => HS) ?_ ?_
    rotate_left 1
    · intro w; go_simp; try with_reducible rfl
    try simp only [Act.put, List.setIfInBounds_toArray, List.set_cons_zero, List.set_cons_succ, List.getElem_toArray, List.getElem_cons_succ, List.getElem_cons_zero]
    refine wpTill_free 1 (v := ?_) rfl (by kernel_rfl) (by kernel_rfl) (by kernel_rfl) (by kernel_rfl) (fun _ _ _ h => h) rfl (fun _ => HS) ?_ ?_
    rotate_left 1
    · intro w; go_simp; try with_reducible rfl
    try simp only [Act.put, List.setIfInBounds_toArray, List.set_cons_zero, List.set_cons_succ, List.getElem_toArray, List.getElem_cons_succ, List.getElem_cons_zero]
    refine wpTill_free 2 (v := ?_) rfl (by kernel_rfl) (by kernel_rfl) (by kernel_rfl) (by kernel_rfl) (fun _ _ _ h => h) rfl (fun _ => HS) ?_ ?_
    rotate_left 1
    · intro w; go_simp; try with_reducible rfl
    try simp only [Act.put, List.setIfInBounds_toArray, List.set_cons_zero, List.set_cons_succ, List.getElem_toArray, List.getElem_cons_succ, List.getElem_cons_zero]
    refine wpTill_free 3 (v := ?_) rfl (by kernel_rfl) (by kernel_rfl) (by kernel_rfl) (by kernel_rfl) (fun _ _ _ h => h) rfl (fun _ => HS) ?_ ?_
    rotate_left 1
    · intro w; go_simp; try with_reducible rfl
    try simp only [Act.put, List.setIfInBounds_toArray, List.set_cons_zero, List.set_cons_succ, List.getElem_toArray, List.getElem_cons_succ, List.getElem_cons_zero]
    refine wpTill_take 4 (v := ?_) rfl (by kernel_rfl) (by kernel_rfl) (by kernel_rfl) (by kernel_rfl) (by kernel_rfl) (fun _ _ _ h => h) rfl HS ?_ ?_
    rotate_left 1
    · intro w hSw; go_split_ands; go_simp; try with_reducible rfl
    try simp only [Act.put, List.setIfInBounds_toArray, List.set_cons_zero, List.set_cons_succ, List.getElem_toArray, List.getElem_cons_succ, List.getElem_cons_zero]
    refine wpTill_one 5 rfl (by kernel_rfl) rfl (fun K hK => ?_)
    go_simp
    refine hK.out _ _ (fun _ => HS5) ?_
    clear hK K
    try simp only [Act.put, List.setIfInBounds_toArray, List.set_cons_zero, List.set_cons_succ, List.getElem_toArray, List.getElem_cons_succ, List.getElem_cons_zero]
    refine wpTill_one 6 rfl (by kernel_rfl) rfl (fun K hK => ?_)
    go_simp
    refine hK.out _ _ (Till.gone (by kernel_rfl)) ?_
    clear hK K
    try simp only [Act.put, List.setIfInBounds_toArray, List.set_cons_zero, List.set_cons_succ, List.getElem_toArray, List.getElem_cons_succ, List.getElem_cons_zero]
    refine wpTill_done (by kernel_rfl) ?_ _
    go_wp2_with fail
    (try simp only [Exit.inBlock, Exit.then])
    refine bodyPost_ret (v := .tuple #[.agg #[.int .i64 0, .string ByteArray.empty, .int .i64 0, .int .u64 0, .int .u64 0, .slice none 0 0], .int .i64 G.1]) ?_ rfl ?_
    · rw [results_cell_tmp rfl]
      have kk := HE.out.2.2
      have z0 := kk.cell 0 rfl
      have z1 := kk.cell 1 rfl
      have z2 := kk.cell 2 rfl
      have z3 := kk.cell 3 rfl
      have z4 := kk.cell 4 rfl
      have z5 := kk.cell 5 rfl
      go_simp
      try rfl
    · exact ⟨own10, HE.out.1.drew, GotEnd.bad HG0.out⟩

end Go.Proofs.Ytlmcfclonncgbaa
