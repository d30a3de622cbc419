/- A cell told (package store's Get, Sound). -/
import Derived.Test.YtlmcfclonncgbaaDRun
import Derived.Test.YtlmcfclonncgbaaPutW
namespace Go.Proofs.Ytlmcfclonncgbaa
open Go.RowKit
set_option linter.unusedVariables false
set_option linter.unusedSimpArgs false

/-- What Get answers. -/
def GotEnd (own : Nat → Nat) (w : World) (g : GR) (e : Ending) : Prop :=
  if g.1 = 0 then ∃ A len cap, e = .returned (.tuple #[valT (un g.2.1) (.slice A len cap), .int .i64 0]) ∧ TmS own w (un g.2.1) (.slice A len cap) else e = .returned (.tuple #[.agg #[.int .i64 0, .string ByteArray.empty, .int .i64 0, .int .u64 0, .int .u64 0, .slice none 0 0], .int .i64 g.1])
theorem GotEnd.good {own : Nat → Nat} {w : World} {g : GR} {A : Option Addr} {len cap : Nat} (h : g.1 = 0) (hT : TmS own w (un g.2.1) (.slice A len cap)) : GotEnd own w g (.returned (.tuple #[valT (un g.2.1) (.slice A len cap), .int .i64 0])) := by
  unfold GotEnd; rw [if_pos h]; exact ⟨A, len, cap, rfl, hT⟩
theorem GotEnd.bad {own : Nat → Nat} {w : World} {g : GR} (h : ¬ g.1 = 0) : GotEnd own w g (.returned (.tuple #[.agg #[.int .i64 0, .string ByteArray.empty, .int .i64 0, .int .u64 0, .int .u64 0, .slice none 0 0], .int .i64 g.1])) := by
  unfold GotEnd; rw [if_neg h]
/-- The owners are of one each. -/
structure IdsT (idh ida idm idv : Nat) : Prop where
  v0 : idv ≠ 0
  vh : idv ≠ idh
  va : idv ≠ ida
  vm : idv ≠ idm
theorem eqlI_map_nil (w : World) : (binOp BinOp.eql 71 (.map none) (.map none)).run Try.prog w = .ok (.bool true) w := by kernel_rfl
theorem eqlI_map_some (q : Nat) (w : World) : (binOp BinOp.eql 71 (.map (some q)) (.map none)).run Try.prog w = .ok (.bool false) w := by kernel_rfl
set_option maxHeartbeats 1600000 in
set_option maxRecDepth 100000 in
theorem sget_new (own : Nat → Nat) (idh ida idm idv : Nat) (hids : IdsT idh ida idm idv) (w : World) (ph pa : Nat) (most c : Int) (l : List Int) (L : List ByteArray) (hh : HP own idh w ph most l) (ha : TabP own ida idm w pa L) (hc0 : 0 ≤ c) (hc1 : c < 18446744073709551616) (hl0 : ∀ x ∈ l, 0 ≤ x ∧ x < 18446744073709551616) (hll : l.length ≤ 1048576) (hLL : L.length ≤ 4096) :
    Calls Try.prog 42 #[.pointer (some ⟨ph, 0, none⟩), .pointer (some ⟨pa, 0, none⟩), .int .u64 c, .map none] w (Does own [idv] w fun own' e w' => GotEnd own' w' (getF l L 500 c 0 []) e) := by
  obtain ⟨F0, hF0, hFF⟩ := own_ne own w.heap.size
  obtain ⟨F, hF⟩ : ∃ F, F0 + idh + ida + idm + idv + 1 = F := ⟨_, rfl⟩
  obtain ⟨x1, kZ, y1⟩ := (Ext.refl own [F + 1, idv] w).box [.int .i64 0, .string { data := #[] }, .int .i64 0, .int .u64 0, .int .u64 0, .slice none 0 0] 25 F
  replace hh := hh.keep y1 (by simp)
  replace ha := ha.keep y1 (by simp) (by simp)
  generalize _root_.Go.Proofs.Ytlmcfclonncgbaa.give own w.heap.size F = o1 at *
  obtain ⟨W1, hW1⟩ : ∃ W1, w.alloc (.cells #[.int .i64 0, .string { data := #[] }, .int .i64 0, .int .u64 0, .int .u64 0, .slice none 0 0] 25) = W1 := ⟨_, rfl⟩
  change Blk o1 _ (w.alloc (.cells #[.int .i64 0, .string { data := #[] }, .int .i64 0, .int .u64 0, .int .u64 0, .slice none 0 0] 25)) _ _ _ at kZ
  change HP o1 _ (w.alloc (.cells #[.int .i64 0, .string { data := #[] }, .int .i64 0, .int .u64 0, .int .u64 0, .slice none 0 0] 25)) _ _ _ at hh
  change TabP o1 _ _ (w.alloc (.cells #[.int .i64 0, .string { data := #[] }, .int .i64 0, .int .u64 0, .int .u64 0, .slice none 0 0] 25)) _ _ at ha
  change Ext own o1 _ w (w.alloc (.cells #[.int .i64 0, .string { data := #[] }, .int .i64 0, .int .u64 0, .int .u64 0, .slice none 0 0] 25)) at x1
  rw [hW1] at kZ hh ha x1 
  obtain ⟨z2, hM⟩ := MV.new o1 idv W1 Try.prog .i64 .i64 3 2
  replace hh := hh.keep z2 (by simp)
  replace ha := ha.keep z2 (by simp) (by simp)
  replace kZ := kZ.keep z2 (by simp)
  replace x1 := x1.trans (z2.mono (by simp))
  generalize _root_.Go.Proofs.Ytlmcfclonncgbaa.give o1 W1.heap.size idv = o1 at *
  obtain ⟨W2, hW2⟩ : ∃ W, W1.alloc (.map #[] 0) = W := ⟨_, rfl⟩
  rw [hW2] at kZ hh ha x1 hM
  obtain ⟨x3, kR, y3⟩ := x1.box [.pointer (some ⟨ph, 0, none⟩), .pointer (some ⟨pa, 0, none⟩), .map (some W1.heap.size), .int .i64 0] 139 (F + 1)
  replace hh := hh.keep y3 (by simp)
  replace ha := ha.keep y3 (by simp) (by simp)
  replace hM := hM.keep y3 (by simp)
  replace kZ := kZ.keep y3 (by simp)
  generalize _root_.Go.Proofs.Ytlmcfclonncgbaa.give o1 W2.heap.size (F + 1) = o3 at *
  obtain ⟨W3, hW3⟩ : ∃ W, W2.alloc (.cells #[.pointer (some ⟨ph, 0, none⟩), .pointer (some ⟨pa, 0, none⟩), .map (some W1.heap.size), .int .i64 0] 139) = W := ⟨_, rfl⟩
  change Blk o3 _ (W2.alloc (.cells #[.pointer (some ⟨ph, 0, none⟩), .pointer (some ⟨pa, 0, none⟩), .map (some W1.heap.size), .int .i64 0] 139)) _ _ _ at kZ
  change Blk o3 _ (W2.alloc (.cells #[.pointer (some ⟨ph, 0, none⟩), .pointer (some ⟨pa, 0, none⟩), .map (some W1.heap.size), .int .i64 0] 139)) _ _ _ at kR
  change HP o3 _ (W2.alloc (.cells #[.pointer (some ⟨ph, 0, none⟩), .pointer (some ⟨pa, 0, none⟩), .map (some W1.heap.size), .int .i64 0] 139)) _ _ _ at hh
  change TabP o3 _ _ (W2.alloc (.cells #[.pointer (some ⟨ph, 0, none⟩), .pointer (some ⟨pa, 0, none⟩), .map (some W1.heap.size), .int .i64 0] 139)) _ _ at ha
  change MV o3 _ (W2.alloc (.cells #[.pointer (some ⟨ph, 0, none⟩), .pointer (some ⟨pa, 0, none⟩), .map (some W1.heap.size), .int .i64 0] 139)) _ _ _ _ _ _ _ at hM
  change Ext own o3 _ w (W2.alloc (.cells #[.pointer (some ⟨ph, 0, none⟩), .pointer (some ⟨pa, 0, none⟩), .map (some W1.heap.size), .int .i64 0] 139)) at x3
  rw [hW3] at kZ kR hh ha hM x3
  have hcall := drun_any (F + 1) idh ida idm idv (by obtain ⟨h1, h2, h3, h4⟩ := hids; constructor <;> omega) W2.heap.size ph pa W1.heap.size most l L hl0 hll hLL 500 (Nat.le_refl _) o3 W3 0 [] c kR hh ha hM hc0 hc1 (by decide) (by decide)
  rw [show (501 : Int) - ((500 : Nat) : Int) = 1 from rfl] at hcall
  have HC := Lib.hid hcall
  have hlt : ∀ b, b < w.heap.size → own b < F + 1 := fun b hb => by have := hFF b hb; omega
  have HX := Lib.hid (And.intro kZ (And.intro x3 (And.intro hlt (show F ∉ [F + 1, idv] ∧ 0 ∉ [F] ∧ idv ∉ [F] by simp; omega))))
  obtain ⟨G, hG⟩ : ∃ G, getF l L 500 c 0 [] = G := ⟨_, rfl⟩
  rw [hG]
  have HG := Lib.hid hG
  clear hcall hG x3 kR y3 kZ hh ha hM x1 y1 hFF hF hF0 hlt hids hc0 hc1 hl0 hll hLL z2
  have hmm := @run_makeMap Try.prog
  have hen := eqlI_map_nil
  by_cases hg : G.1 = 0
  · have HG0 := Lib.hid hg
    clear hg
    go_enter Try.func42, Try.ntmps42
    go_wp2_with (go_at_call 92; refine Calls.mono HC.out ?_; rintro e w9 ⟨own9, x9, hE⟩; rw [HG.out] at hE; obtain ⟨hb9, hM9, hq⟩ := hE; rw [if_pos HG0.out] at hq; obtain ⟨A9, l9, cp9, hee, hT9⟩ := hq; obtain rfl : e = .returned (.tuple #[.agg #[.int .i64 (un G.2.1).kind, .string (un G.2.1).name, .int .i64 (un G.2.1).int, .int .u64 (un G.2.1).re, .int .u64 (un G.2.1).im, .slice A9 l9 cp9], .int .i64 0]) := hee; have kZ9 := HX.out.1.keep x9 HX.out.2.2.2.1; have x59 : Ext own own9 [idv] w w9 := (HX.out.2.1.trans x9).without (F + 1) HX.out.2.2.1 (by intro i hi; simpa using hi); have b0 := kZ9.cell 0 rfl; have b1 := kZ9.cell 1 rfl; have b2 := kZ9.cell 2 rfl; have b3 := kZ9.cell 3 rfl; have b4 := kZ9.cell 4 rfl; have b5 := kZ9.cell 5 rfl; have bf0 := kZ9.free 0; have bf1 := kZ9.free 1; have bf2 := kZ9.free 2; have bf3 := kZ9.free 3; have bf4 := kZ9.free 4; have bf5 := kZ9.free 5)
    have HE := Lib.hid (store_resI (v0 := .int .i64 (un G.2.1).kind) (v1 := .string (un G.2.1).name) (v2 := .int .i64 (un G.2.1).int) (v3 := .int .u64 (un G.2.1).re) (v4 := .int .u64 (un G.2.1).im) (v5 := .slice A9 l9 cp9) x59 (Nat.le_refl _) kZ9)
    (try simp only [Exit.inBlock, Exit.then])
    refine bodyPost_ret (v := .tuple #[.agg #[.int .i64 (un G.2.1).kind, .string (un G.2.1).name, .int .i64 (un G.2.1).int, .int .u64 (un G.2.1).re, .int .u64 (un G.2.1).im, .slice A9 l9 cp9], .int .i64 0]) ?_ rfl ?_
    · rw [results_cell_tmp rfl]
      have kk := HE.out.2.2
      have z0 := kk.cell 0 rfl
      have z1 := kk.cell 1 rfl
      have z2 := kk.cell 2 rfl
      have z3 := kk.cell 3 rfl
      have z4 := kk.cell 4 rfl
      have z5 := kk.cell 5 rfl
      go_simp
      try rfl
    · exact ⟨own9, HE.out.1, GotEnd.good HG0.out (TmS.keep HE.out.2.1 HX.out.2.2.2.2.1 _ _ hT9)⟩
  · have HG0 := Lib.hid hg
    clear hg
    go_enter Try.func42, Try.ntmps42
    go_wp2_with (go_at_call 92; refine Calls.mono HC.out ?_; rintro e w9 ⟨own9, x9, hE⟩; rw [HG.out] at hE; obtain ⟨hb9, hM9, hq⟩ := hE; rw [if_neg HG0.out] at hq; obtain rfl := hq; have kZ9 := HX.out.1.keep x9 HX.out.2.2.2.1; have x59 : Ext own own9 [idv] w w9 := (HX.out.2.1.trans x9).without (F + 1) HX.out.2.2.1 (by intro i hi; simpa using hi); have b0 := kZ9.cell 0 rfl; have b1 := kZ9.cell 1 rfl; have b2 := kZ9.cell 2 rfl; have b3 := kZ9.cell 3 rfl; have b4 := kZ9.cell 4 rfl; have b5 := kZ9.cell 5 rfl; have bf0 := kZ9.free 0; have bf1 := kZ9.free 1; have bf2 := kZ9.free 2; have bf3 := kZ9.free 3; have bf4 := kZ9.free 4; have bf5 := kZ9.free 5)
    have HE := Lib.hid (store_resI (v0 := .int .i64 0) (v1 := .string { data := #[] }) (v2 := .int .i64 0) (v3 := .int .u64 0) (v4 := .int .u64 0) (v5 := .slice none 0 0) x59 (Nat.le_refl _) kZ9)
    (try simp only [Exit.inBlock, Exit.then])
    refine bodyPost_ret (v := .tuple #[.agg #[.int .i64 0, .string ByteArray.empty, .int .i64 0, .int .u64 0, .int .u64 0, .slice none 0 0], .int .i64 G.1]) ?_ rfl ?_
    · rw [results_cell_tmp rfl]
      have kk := HE.out.2.2
      have z0 := kk.cell 0 rfl
      have z1 := kk.cell 1 rfl
      have z2 := kk.cell 2 rfl
      have z3 := kk.cell 3 rfl
      have z4 := kk.cell 4 rfl
      have z5 := kk.cell 5 rfl
      go_simp
      try rfl
    · exact ⟨own9, HE.out.1, GotEnd.bad HG0.out⟩
set_option maxHeartbeats 1600000 in
set_option maxRecDepth 100000 in
theorem sget_map (own : Nat → Nat) (idh ida idm idv : Nat) (hids : IdsT idh ida idm idv) (w : World) (ph pa q : Nat) (most c : Int) (l P : List Int) (L : List ByteArray) (hh : HP own idh w ph most l) (ha : TabP own ida idm w pa L) (hM : RM own idv w q (numV P 0)) (hP : P.length ≤ 998000) (hc0 : 0 ≤ c) (hc1 : c < 18446744073709551616) (hl0 : ∀ x ∈ l, 0 ≤ x ∧ x < 18446744073709551616) (hll : l.length ≤ 1048576) (hLL : L.length ≤ 4096) :
    Calls Try.prog 42 #[.pointer (some ⟨ph, 0, none⟩), .pointer (some ⟨pa, 0, none⟩), .int .u64 c, .map (some q)] w (Does own [idv] w fun own' e w' => GotEnd own' w' (getF l L 500 c 0 P) e ∧ RM own' idv w' q (numV (getF l L 500 c 0 P).2.2.2 0)) := by
  obtain ⟨F0, hF0, hFF⟩ := own_ne own w.heap.size
  obtain ⟨F, hF⟩ : ∃ F, F0 + idh + ida + idm + idv + 1 = F := ⟨_, rfl⟩
  obtain ⟨x1, kZ, y1⟩ := (Ext.refl own [F + 1, idv] w).box [.int .i64 0, .string { data := #[] }, .int .i64 0, .int .u64 0, .int .u64 0, .slice none 0 0] 25 F
  replace hh := hh.keep y1 (by simp)
  replace ha := ha.keep y1 (by simp) (by simp)
  replace hM := hM.keep y1 (by simp)
  generalize _root_.Go.Proofs.Ytlmcfclonncgbaa.give own w.heap.size F = o1 at *
  obtain ⟨W1, hW1⟩ : ∃ W1, w.alloc (.cells #[.int .i64 0, .string { data := #[] }, .int .i64 0, .int .u64 0, .int .u64 0, .slice none 0 0] 25) = W1 := ⟨_, rfl⟩
  change Blk o1 _ (w.alloc (.cells #[.int .i64 0, .string { data := #[] }, .int .i64 0, .int .u64 0, .int .u64 0, .slice none 0 0] 25)) _ _ _ at kZ
  change HP o1 _ (w.alloc (.cells #[.int .i64 0, .string { data := #[] }, .int .i64 0, .int .u64 0, .int .u64 0, .slice none 0 0] 25)) _ _ _ at hh
  change TabP o1 _ _ (w.alloc (.cells #[.int .i64 0, .string { data := #[] }, .int .i64 0, .int .u64 0, .int .u64 0, .slice none 0 0] 25)) _ _ at ha
  change Ext own o1 _ w (w.alloc (.cells #[.int .i64 0, .string { data := #[] }, .int .i64 0, .int .u64 0, .int .u64 0, .slice none 0 0] 25)) at x1
  change MV o1 _ (w.alloc (.cells #[.int .i64 0, .string { data := #[] }, .int .i64 0, .int .u64 0, .int .u64 0, .slice none 0 0] 25)) _ _ _ _ _ _ _ at hM
  rw [hW1] at kZ hh ha x1 hM
  obtain ⟨x3, kR, y3⟩ := x1.box [.pointer (some ⟨ph, 0, none⟩), .pointer (some ⟨pa, 0, none⟩), .map (some q), .int .i64 0] 139 (F + 1)
  replace hh := hh.keep y3 (by simp)
  replace ha := ha.keep y3 (by simp) (by simp)
  replace hM := hM.keep y3 (by simp)
  replace kZ := kZ.keep y3 (by simp)
  generalize _root_.Go.Proofs.Ytlmcfclonncgbaa.give o1 W1.heap.size (F + 1) = o3 at *
  obtain ⟨W3, hW3⟩ : ∃ W, W1.alloc (.cells #[.pointer (some ⟨ph, 0, none⟩), .pointer (some ⟨pa, 0, none⟩), .map (some q), .int .i64 0] 139) = W := ⟨_, rfl⟩
  change Blk o3 _ (W1.alloc (.cells #[.pointer (some ⟨ph, 0, none⟩), .pointer (some ⟨pa, 0, none⟩), .map (some q), .int .i64 0] 139)) _ _ _ at kZ
  change Blk o3 _ (W1.alloc (.cells #[.pointer (some ⟨ph, 0, none⟩), .pointer (some ⟨pa, 0, none⟩), .map (some q), .int .i64 0] 139)) _ _ _ at kR
  change HP o3 _ (W1.alloc (.cells #[.pointer (some ⟨ph, 0, none⟩), .pointer (some ⟨pa, 0, none⟩), .map (some q), .int .i64 0] 139)) _ _ _ at hh
  change TabP o3 _ _ (W1.alloc (.cells #[.pointer (some ⟨ph, 0, none⟩), .pointer (some ⟨pa, 0, none⟩), .map (some q), .int .i64 0] 139)) _ _ at ha
  change MV o3 _ (W1.alloc (.cells #[.pointer (some ⟨ph, 0, none⟩), .pointer (some ⟨pa, 0, none⟩), .map (some q), .int .i64 0] 139)) _ _ _ _ _ _ _ at hM
  change Ext own o3 _ w (W1.alloc (.cells #[.pointer (some ⟨ph, 0, none⟩), .pointer (some ⟨pa, 0, none⟩), .map (some q), .int .i64 0] 139)) at x3
  rw [hW3] at kZ kR hh ha hM x3
  have hcall := drun_any (F + 1) idh ida idm idv (by obtain ⟨h1, h2, h3, h4⟩ := hids; constructor <;> omega) W1.heap.size ph pa q most l L hl0 hll hLL 500 (Nat.le_refl _) o3 W3 0 P c kR hh ha hM hc0 hc1 (by decide) hP
  rw [show (501 : Int) - ((500 : Nat) : Int) = 1 from rfl] at hcall
  have HC := Lib.hid hcall
  have hlt : ∀ b, b < w.heap.size → own b < F + 1 := fun b hb => by have := hFF b hb; omega
  have HX := Lib.hid (And.intro kZ (And.intro x3 (And.intro hlt (show F ∉ [F + 1, idv] ∧ 0 ∉ [F] ∧ idv ∉ [F] by simp; omega))))
  obtain ⟨G, hG⟩ : ∃ G, getF l L 500 c 0 P = G := ⟨_, rfl⟩
  rw [hG]
  have HG := Lib.hid hG
  clear hcall hG x3 kR y3 kZ hh ha hM x1 y1 hFF hF hF0 hlt hids hc0 hc1 hl0 hll hLL hP
  have hmm := @run_makeMap Try.prog
  have hen := eqlI_map_some q
  by_cases hg : G.1 = 0
  · have HG0 := Lib.hid hg
    clear hg
    go_enter Try.func42, Try.ntmps42
    go_wp2_with (go_at_call 92; refine Calls.mono HC.out ?_; rintro e w9 ⟨own9, x9, hE⟩; rw [HG.out] at hE; obtain ⟨hb9, hM9, hq⟩ := hE; rw [if_pos HG0.out] at hq; obtain ⟨A9, l9, cp9, hee, hT9⟩ := hq; obtain rfl : e = .returned (.tuple #[.agg #[.int .i64 (un G.2.1).kind, .string (un G.2.1).name, .int .i64 (un G.2.1).int, .int .u64 (un G.2.1).re, .int .u64 (un G.2.1).im, .slice A9 l9 cp9], .int .i64 0]) := hee; have kZ9 := HX.out.1.keep x9 HX.out.2.2.2.1; have x59 : Ext own own9 [idv] w w9 := (HX.out.2.1.trans x9).without (F + 1) HX.out.2.2.1 (by intro i hi; simpa using hi); have b0 := kZ9.cell 0 rfl; have b1 := kZ9.cell 1 rfl; have b2 := kZ9.cell 2 rfl; have b3 := kZ9.cell 3 rfl; have b4 := kZ9.cell 4 rfl; have b5 := kZ9.cell 5 rfl; have bf0 := kZ9.free 0; have bf1 := kZ9.free 1; have bf2 := kZ9.free 2; have bf3 := kZ9.free 3; have bf4 := kZ9.free 4; have bf5 := kZ9.free 5)
    have HE := Lib.hid (store_resI (v0 := .int .i64 (un G.2.1).kind) (v1 := .string (un G.2.1).name) (v2 := .int .i64 (un G.2.1).int) (v3 := .int .u64 (un G.2.1).re) (v4 := .int .u64 (un G.2.1).im) (v5 := .slice A9 l9 cp9) x59 (Nat.le_refl _) kZ9)
    (try simp only [Exit.inBlock, Exit.then])
    refine bodyPost_ret (v := .tuple #[.agg #[.int .i64 (un G.2.1).kind, .string (un G.2.1).name, .int .i64 (un G.2.1).int, .int .u64 (un G.2.1).re, .int .u64 (un G.2.1).im, .slice A9 l9 cp9], .int .i64 0]) ?_ rfl ?_
    · rw [results_cell_tmp rfl]
      have kk := HE.out.2.2
      have z0 := kk.cell 0 rfl
      have z1 := kk.cell 1 rfl
      have z2 := kk.cell 2 rfl
      have z3 := kk.cell 3 rfl
      have z4 := kk.cell 4 rfl
      have z5 := kk.cell 5 rfl
      go_simp
      try rfl
    · exact ⟨own9, HE.out.1, GotEnd.good HG0.out (TmS.keep HE.out.2.1 HX.out.2.2.2.2.1 _ _ hT9), hM9.keep HE.out.2.1 HX.out.2.2.2.2.2⟩
  · have HG0 := Lib.hid hg
    clear hg
    go_enter Try.func42, Try.ntmps42
    go_wp2_with (go_at_call 92; refine Calls.mono HC.out ?_; rintro e w9 ⟨own9, x9, hE⟩; rw [HG.out] at hE; obtain ⟨hb9, hM9, hq⟩ := hE; rw [if_neg HG0.out] at hq; obtain rfl := hq; have kZ9 := HX.out.1.keep x9 HX.out.2.2.2.1; have x59 : Ext own own9 [idv] w w9 := (HX.out.2.1.trans x9).without (F + 1) HX.out.2.2.1 (by intro i hi; simpa using hi); have b0 := kZ9.cell 0 rfl; have b1 := kZ9.cell 1 rfl; have b2 := kZ9.cell 2 rfl; have b3 := kZ9.cell 3 rfl; have b4 := kZ9.cell 4 rfl; have b5 := kZ9.cell 5 rfl; have bf0 := kZ9.free 0; have bf1 := kZ9.free 1; have bf2 := kZ9.free 2; have bf3 := kZ9.free 3; have bf4 := kZ9.free 4; have bf5 := kZ9.free 5)
    have HE := Lib.hid (store_resI (v0 := .int .i64 0) (v1 := .string { data := #[] }) (v2 := .int .i64 0) (v3 := .int .u64 0) (v4 := .int .u64 0) (v5 := .slice none 0 0) x59 (Nat.le_refl _) kZ9)
    (try simp only [Exit.inBlock, Exit.then])
    refine bodyPost_ret (v := .tuple #[.agg #[.int .i64 0, .string ByteArray.empty, .int .i64 0, .int .u64 0, .int .u64 0, .slice none 0 0], .int .i64 G.1]) ?_ rfl ?_
    · rw [results_cell_tmp rfl]
      have kk := HE.out.2.2
      have z0 := kk.cell 0 rfl
      have z1 := kk.cell 1 rfl
      have z2 := kk.cell 2 rfl
      have z3 := kk.cell 3 rfl
      have z4 := kk.cell 4 rfl
      have z5 := kk.cell 5 rfl
      go_simp
      try rfl
    · exact ⟨own9, HE.out.1, GotEnd.bad HG0.out, hM9.keep HE.out.2.1 HX.out.2.2.2.2.2⟩
set_option maxHeartbeats 1600000 in
set_option maxRecDepth 100000 in
theorem sound_any (own : Nat → Nat) (idh ida idm idv : Nat) (hids : IdsT idh ida idm idv) (w : World) (ph pa : Nat) (most c : Int) (l : List Int) (L : List ByteArray) (hh : HP own idh w ph most l) (ha : TabP own ida idm w pa L) (hc0 : 0 ≤ c) (hc1 : c < 18446744073709551616) (hl0 : ∀ x ∈ l, 0 ≤ x ∧ x < 18446744073709551616) (hll : l.length ≤ 1048576) (hLL : L.length ≤ 4096) :
    Calls Try.prog 50 #[.pointer (some ⟨ph, 0, none⟩), .pointer (some ⟨pa, 0, none⟩), .int .u64 c] w (Does own [idv] w fun own' e w' => e = .returned (.int .i64 (getF l L 500 c 0 []).1)) := by
  have HC := Lib.hid (sget_new own idh ida idm idv hids w ph pa most c l L hh ha hc0 hc1 hl0 hll hLL)
  obtain ⟨G, hG⟩ : ∃ G, getF l L 500 c 0 [] = G := ⟨_, rfl⟩
  rw [hG]
  have HG := Lib.hid hG
  clear hh ha hc0 hc1 hl0 hll hLL hids hG
  by_cases hg : G.1 = 0
  · have HG0 := Lib.hid hg
    rw [hg]
    clear hg
    go_enter Try.func50, Try.ntmps50
    go_wp2_with (go_at_call 42; refine Calls.mono HC.out ?_; rintro e w9 ⟨own9, x9, hE⟩; rw [HG.out] at hE; unfold GotEnd at hE; rw [if_pos HG0.out] at hE; obtain ⟨A9, l9, cp9, hee, hT9⟩ := hE; obtain rfl : e = .returned (.tuple #[.agg #[.int .i64 (un G.2.1).kind, .string (un G.2.1).name, .int .i64 (un G.2.1).int, .int .u64 (un G.2.1).re, .int .u64 (un G.2.1).im, .slice A9 l9 cp9], .int .i64 0]) := hee)
    go_ret
    exact ⟨own9, x9.alloc _, rfl⟩
  · have HG0 := Lib.hid hg
    clear hg
    go_enter Try.func50, Try.ntmps50
    go_wp2_with (go_at_call 42; refine Calls.mono HC.out ?_; rintro e w9 ⟨own9, x9, hE⟩; rw [HG.out] at hE; unfold GotEnd at hE; rw [if_neg HG0.out] at hE; obtain rfl := hE)
    go_ret
    exact ⟨own9, x9.alloc _, rfl⟩

end Go.Proofs.Ytlmcfclonncgbaa
