/- The reference's getter: all but compounds. -/
import Derived.Test.YtlmcfclonncgbaaRGet1
namespace Go.Proofs.Ytlmcfclonncgbaa
open Go.RowKit
set_option linter.unusedVariables false
set_option linter.unusedSimpArgs false

/-- What the getter answers and leaves. -/
def RGetEnd (own : Nat → Nat) (w : World) (idg idv g ph pa pm : Nat) (G : GR) (e : Ending) : Prop :=
  if G.1 = 0 then GB own idg w g ph pa pm (G.2.2.1 : Nat) 0 ∧ RM own idv w pm (numV G.2.2.2 0) ∧ ∃ A len cap, e = .returned (valT (un G.2.1) (.slice A len cap)) ∧ TmS own w (un G.2.1) (.slice A len cap)
  else (∃ n' : Int, GB own idg w g ph pa pm n' G.1) ∧ ∃ (k : Int) (s : ByteArray) (n re im : Int) (A : Option Addr) (len cap : Nat), e = .returned (.agg #[.int .i64 k, .string s, .int .i64 n, .int .u64 re, .int .u64 im, .slice A len cap])
theorem RGetEnd.bad {own : Nat → Nat} {w : World} {idg idv g ph pa pm n : Nat} {P : List Int} {n' er : Int} {k m re im : Int} {s : ByteArray} {A : Option Addr} {len cap : Nat} (hb : GB own idg w g ph pa pm n' er) (he : er ≠ 0) : RGetEnd own w idg idv g ph pa pm (Ytlmcfclonncgbaa.bad er n P) (.returned (.agg #[.int .i64 k, .string s, .int .i64 m, .int .u64 re, .int .u64 im, .slice A len cap])) := by
  unfold RGetEnd
  rw [if_neg (show ¬ (Ytlmcfclonncgbaa.bad er n P).1 = 0 from he)]
  exact ⟨⟨n', hb⟩, k, s, m, re, im, A, len, cap, rfl⟩
theorem RGetEnd.good {own : Nat → Nat} {w : World} {idg idv g ph pa pm n : Nat} {P : List Int} {c : CT} {A : Option Addr} {len cap : Nat} (hb : GB own idg w g ph pa pm n 0) (hM : RM own idv w pm (numV P 0)) (hT : TmS own w (un c) (.slice A len cap)) : RGetEnd own w idg idv g ph pa pm (0, c, n, P) (.returned (valT (un c) (.slice A len cap))) := by
  unfold RGetEnd
  rw [if_pos (show ((0 : Int), c, n, P).1 = 0 from rfl)]
  exact ⟨hb, hM, A, len, cap, rfl, hT⟩
theorem GB.succ {own : Nat → Nat} {w : World} {id g ph pa pm n : Nat} {er : Int} (h : GB own id w g ph pa pm ((n : Int) + 1) er) : GB own id w g ph pa pm ((n + 1 : Nat) : Int) er := by
  rw [show ((n + 1 : Nat) : Int) = (n : Int) + 1 by push_cast; rfl]; exact h
/-- The owners. -/
structure IdsR (idg idh ida idv : Nat) : Prop where
  g0 : idg ≠ 0
  v0 : idv ≠ 0
  gh : idg ≠ idh
  ga : idg ≠ ida
  gv : idg ≠ idv
  vh : idv ≠ idh
  va : idv ≠ ida
/-- One step of the telling. -/
def getB (l : List Int) (L : List ByteArray) (f : Int → Nat → List Int → GR) (c : Int) (n : Nat) (P : List Int) : GR :=
    if n = 2000 then bad 3 n P else
    if deref l c % 8 = 0 then (if deref l c / 8 < l.length ∧ l.getD (deref l c / 8).toNat 0 = deref l c then (0, .var ((look (numV (metP P (deref l c / 8)) 0) (deref l c / 8)).getD 0), n + 1, metP P (deref l c / 8)) else bad 2 (n + 1) P)
    else if deref l c % 8 = 1 then
      compG l L f (deref l c) (n + 1) P
    else if deref l c % 8 = 2 then (if deref l c / 8 < L.length then (0, .atom (L.getD (deref l c / 8).toNat ByteArray.empty), n + 1, P) else bad 2 (n + 1) P)
    else if deref l c % 8 = 3 then (0, .int (intC (deref l c)), n + 1, P)
    else if deref l c % 8 = 4 then (if deref l c / 8 < l.length then (0, .int (sig (l.getD (deref l c / 8).toNat 0)), n + 1, P) else bad 2 (n + 1) P)
    else if deref l c % 8 = 5 then (if deref l c / 8 + 1 < l.length then (0, .cpx (l.getD (deref l c / 8).toNat 0) (l.getD ((deref l c / 8).toNat + 1) 0), n + 1, P) else bad 2 (n + 1) P)
    else bad 2 (n + 1) P
theorem getF_succ (l : List Int) (L : List ByteArray) (fuel : Nat) (c : Int) (n : Nat) (P : List Int) : getF l L (fuel + 1) c n P = getB l L (getF l L fuel) c n P := by unfold getB; conv => lhs; unfold getF
theorem getD_mem {l : List Int} {v : Nat} (h : v < l.length) : l[v]? = some (l.getD v 0) := by simp [List.getD, List.getElem?_eq_getElem h]
set_option maxHeartbeats 8000000 in
set_option maxRecDepth 100000 in
theorem rget_long (d : Int) (own : Nat → Nat) (idg idh ida idv : Nat) (hids : IdsR idg idh ida idv) (w : World) (g ph pa pm n : Nat) (most c : Int) (l P : List Int) (L : List ByteArray) (hb : GB own idg w g ph pa pm n 0) (hh : RH own idh w ph most l) (ha : RAP own ida w pa L) (hM : RM own idv w pm (numV P 0)) (hc0 : 0 ≤ c) (hc1 : c < 18446744073709551616) (hl0 : ∀ x ∈ l, 0 ≤ x ∧ x < 18446744073709551616) (hll : l.length ≤ 1048576) (hLL : L.length ≤ 4096) (hn : n ≤ 2000) (hP : P.length ≤ 998000 + n) (hlong : n = 2000 ∨ 500 < d) :
    Calls Try.prog 95 #[.pointer (some ⟨g, 0, none⟩), .int .u64 c, .int .i64 d] w (Does own [idg, idv] w fun own' e w' => RGetEnd own' w' idg idv g ph pa pm (bad 3 n P) e) := by
  obtain ⟨F0, hF0, hFF⟩ := own_ne own w.heap.size
  obtain ⟨F, hF⟩ : ∃ F, F0 + idg + idh + ida + idv + 1 = F := ⟨_, rfl⟩
  obtain ⟨x1, kZ, y1⟩ := (Ext.refl own [idg, idv] w).box [.int .i64 0, .string { data := #[] }, .int .i64 0, .int .u64 0, .int .u64 0, .slice none 0 0] 25 F
  replace hb := Blk.keep hb y1 (by simp)
  replace hh := hh.keep y1 (by simp)
  replace ha := ha.keep y1 (by simp)
  replace hM := hM.keep y1 (by simp)
  generalize _root_.Go.Proofs.Ytlmcfclonncgbaa.give own w.heap.size F = o1 at *
  obtain ⟨W1, hW1⟩ : ∃ W1, w.alloc (.cells #[.int .i64 0, .string { data := #[] }, .int .i64 0, .int .u64 0, .int .u64 0, .slice none 0 0] 25) = W1 := ⟨_, rfl⟩
  change Blk o1 _ (w.alloc (.cells #[.int .i64 0, .string { data := #[] }, .int .i64 0, .int .u64 0, .int .u64 0, .slice none 0 0] 25)) _ _ _ at kZ
  change Blk o1 _ (w.alloc (.cells #[.int .i64 0, .string { data := #[] }, .int .i64 0, .int .u64 0, .int .u64 0, .slice none 0 0] 25)) _ _ _ at hb
  change RH o1 _ (w.alloc (.cells #[.int .i64 0, .string { data := #[] }, .int .i64 0, .int .u64 0, .int .u64 0, .slice none 0 0] 25)) _ _ _ at hh
  change RAP o1 _ (w.alloc (.cells #[.int .i64 0, .string { data := #[] }, .int .i64 0, .int .u64 0, .int .u64 0, .slice none 0 0] 25)) _ _ at ha
  change MV o1 _ (w.alloc (.cells #[.int .i64 0, .string { data := #[] }, .int .i64 0, .int .u64 0, .int .u64 0, .slice none 0 0] 25)) _ _ _ _ _ _ _ at hM
  change Ext own o1 _ w (w.alloc (.cells #[.int .i64 0, .string { data := #[] }, .int .i64 0, .int .u64 0, .int .u64 0, .slice none 0 0] 25)) at x1
  rw [hW1] at kZ hb hh ha hM x1
  have c0 := Blk.cell hb 0 rfl
  have c1 := Blk.cell hb 1 rfl
  have c2 := Blk.cell hb 2 rfl
  have c3 := Blk.cell hb 3 rfl
  have c4 := Blk.cell hb 4 rfl
  have f3 := Blk.free hb 3
  have hF1 : F ∉ [idg] ∧ idg ∉ [F] ∧ idv ∉ [F] ∧ 0 ∉ [F] ∧ idh ∉ [idg] ∧ ida ∉ [idg] ∧ idv ∉ [idg] ∧ F ∉ [idv] ∧ idg ∉ [idv] ∧ idh ∉ [F] ∧ ida ∉ [F] ∧ F ∉ [idg, idv] := by
    have := hids.gh; have := hids.ga; have := hids.gv
    simp; omega
  have HF1 := Lib.hid hF1
  have y2 : Ext o1 o1 [idg] W1 (W1.setCell ⟨g, 3, none⟩ (.int .i64 ((n : Int) + 1))) := (Ext.refl o1 [idg] W1).setCell _ _ (fun _ => by show o1 g ∈ _; rw [hb.2]; simp)
  have hb2 : GB o1 idg (W1.setCell ⟨g, 3, none⟩ (.int .i64 ((n : Int) + 1))) g ph pa pm ((n : Int) + 1) 0 := Blk.set hb 3 _
  have hh2 := hh.keep y2 hF1.2.2.2.2.1
  have ha2 := ha.keep y2 hF1.2.2.2.2.2.1
  have hM2 := hM.keep y2 hF1.2.2.2.2.2.2.1
  have kZ2 := kZ.keep y2 hF1.1
  have x2 := x1.trans (y2.mono (by simp))
  obtain ⟨W2, hW2⟩ : ∃ W2, W1.setCell ⟨g, 3, none⟩ (.int .i64 ((n : Int) + 1)) = W2 := ⟨_, rfl⟩
  rw [hW2] at hb2 hh2 ha2 hM2 kZ2 x2
  have d0 := Blk.cell hb2 0 rfl
  have d3 := Blk.cell hb2 3 rfl
  have hwn : IntKind.i64.wrap ((n : Int) + 1) = (n : Int) + 1 := by rw [IntKind.wrap_i64]; omega
  have hf4 := Blk.free hb2 4
  have d4 := Blk.cell hb2 4 rfl
  have y3 : Ext o1 o1 [idg] W2 (W2.setCell ⟨g, 4, none⟩ (.int .i64 3)) := (Ext.refl o1 [idg] W2).setCell _ _ (fun _ => by show o1 g ∈ _; rw [hb2.2]; simp)
  have hb3 : GB o1 idg (W2.setCell ⟨g, 4, none⟩ (.int .i64 3)) g ph pa pm ((n : Int) + 1) 3 := Blk.set hb2 4 _
  have kZ3 := kZ2.keep y3 HF1.out.1
  have x3 := x2.trans (y3.mono (jds := [idg, idv]) (by simp))
  obtain ⟨W3, hW3⟩ : ∃ W, W2.setCell ⟨g, 4, none⟩ (.int .i64 3) = W := ⟨_, rfl⟩
  rw [hW3] at hb3 kZ3 x3
  have b0 := kZ3.cell 0 rfl; have b1 := kZ3.cell 1 rfl; have b2 := kZ3.cell 2 rfl; have b3 := kZ3.cell 3 rfl; have b4 := kZ3.cell 4 rfl; have b5 := kZ3.cell 5 rfl; have bf0 := kZ3.free 0; have bf1 := kZ3.free 1; have bf2 := kZ3.free 2; have bf3 := kZ3.free 3; have bf4 := kZ3.free 4; have bf5 := kZ3.free 5
  have HX := Lib.hid (And.intro x3 (And.intro hb3 kZ3))
  clear hFF hF hF0 hM hh ha hb y1 kZ hc0 hc1 hl0 hll hLL hP y2 hh2 ha2 hM2 kZ2 x2 hb2 hids hF1 x1 y3 x3 hb3 kZ3
  by_cases h2 : n = 2000
  · have hn2 : decide ((2000 : Int) < (n : Int) + 1) = true := decide_eq_true (by omega)
    clear h2 hlong
    go_enter Try.func95, Try.ntmps95
    go_wp2_with fail
    have HE := Lib.hid (store_resI (v0 := .int .i64 0) (v1 := .string { data := #[] }) (v2 := .int .i64 0) (v3 := .int .u64 0) (v4 := .int .u64 0) (v5 := .slice none 0 0) HX.out.1 (Nat.le_refl _) HX.out.2.2)
    (try simp only [Exit.inBlock, Exit.then])
    refine bodyPost_ret (v := .agg #[.int .i64 0, .string ByteArray.empty, .int .i64 0, .int .u64 0, .int .u64 0, .slice none 0 0]) ?_ rfl ?_
    · rw [results_cell1 rfl]
      have kk := HE.out.2.2
      have z0 := kk.cell 0 rfl
      have z1 := kk.cell 1 rfl
      have z2 := kk.cell 2 rfl
      have z3 := kk.cell 3 rfl
      have z4 := kk.cell 4 rfl
      have z5 := kk.cell 5 rfl
      go_simp
      try rfl
    · exact ⟨o1, HE.out.1, RGetEnd.bad (er := 3) (Blk.keep HX.out.2.1 HE.out.2.1 HF1.out.2.1) (by decide)⟩
  · have hn2 : decide ((2000 : Int) < (n : Int) + 1) = false := decide_eq_false (by omega)
    have hdd : decide ((500 : Int) < d) = true := decide_eq_true (by omega)
    clear hlong
    go_enter Try.func95, Try.ntmps95
    go_wp2_with fail
    have HE := Lib.hid (store_resI (v0 := .int .i64 0) (v1 := .string { data := #[] }) (v2 := .int .i64 0) (v3 := .int .u64 0) (v4 := .int .u64 0) (v5 := .slice none 0 0) HX.out.1 (Nat.le_refl _) HX.out.2.2)
    (try simp only [Exit.inBlock, Exit.then])
    refine bodyPost_ret (v := .agg #[.int .i64 0, .string ByteArray.empty, .int .i64 0, .int .u64 0, .int .u64 0, .slice none 0 0]) ?_ rfl ?_
    · rw [results_cell1 rfl]
      have kk := HE.out.2.2
      have z0 := kk.cell 0 rfl
      have z1 := kk.cell 1 rfl
      have z2 := kk.cell 2 rfl
      have z3 := kk.cell 3 rfl
      have z4 := kk.cell 4 rfl
      have z5 := kk.cell 5 rfl
      go_simp
      try rfl
    · exact ⟨o1, HE.out.1, RGetEnd.bad (er := 3) (Blk.keep HX.out.2.1 HE.out.2.1 HF1.out.2.1) (by decide)⟩
set_option maxHeartbeats 8000000 in
set_option maxRecDepth 100000 in
theorem rget_leaf (d : Int) (hd1 : d ≤ 500) (own : Nat → Nat) (idg idh ida idv : Nat) (hids : IdsR idg idh ida idv) (w : World) (g ph pa pm n : Nat) (most c : Int) (l P : List Int) (L : List ByteArray) (f : Int → Nat → List Int → GR) (hb : GB own idg w g ph pa pm n 0) (hh : RH own idh w ph most l) (ha : RAP own ida w pa L) (hM : RM own idv w pm (numV P 0)) (hc0 : 0 ≤ c) (hc1 : c < 18446744073709551616) (hl0 : ∀ x ∈ l, 0 ≤ x ∧ x < 18446744073709551616) (hll : l.length ≤ 1048576) (hLL : L.length ≤ 4096) (hn : n ≤ 2000) (hP : P.length ≤ 998000 + n) (h2000 : n ≠ 2000) (hleaf : deref l c % 8 ≠ 1) :
    Calls Try.prog 95 #[.pointer (some ⟨g, 0, none⟩), .int .u64 c, .int .i64 d] w (Does own [idg, idv] w fun own' e w' => RGetEnd own' w' idg idv g ph pa pm (getB l L f c n P) e) := by
  obtain ⟨F0, hF0, hFF⟩ := own_ne own w.heap.size
  obtain ⟨F, hF⟩ : ∃ F, F0 + idg + idh + ida + idv + 1 = F := ⟨_, rfl⟩
  obtain ⟨x1, kZ, y1⟩ := (Ext.refl own [idg, idv] w).box [.int .i64 0, .string { data := #[] }, .int .i64 0, .int .u64 0, .int .u64 0, .slice none 0 0] 25 F
  replace hb := Blk.keep hb y1 (by simp)
  replace hh := hh.keep y1 (by simp)
  replace ha := ha.keep y1 (by simp)
  replace hM := hM.keep y1 (by simp)
  generalize _root_.Go.Proofs.Ytlmcfclonncgbaa.give own w.heap.size F = o1 at *
  obtain ⟨W1, hW1⟩ : ∃ W1, w.alloc (.cells #[.int .i64 0, .string { data := #[] }, .int .i64 0, .int .u64 0, .int .u64 0, .slice none 0 0] 25) = W1 := ⟨_, rfl⟩
  change Blk o1 _ (w.alloc (.cells #[.int .i64 0, .string { data := #[] }, .int .i64 0, .int .u64 0, .int .u64 0, .slice none 0 0] 25)) _ _ _ at kZ
  change Blk o1 _ (w.alloc (.cells #[.int .i64 0, .string { data := #[] }, .int .i64 0, .int .u64 0, .int .u64 0, .slice none 0 0] 25)) _ _ _ at hb
  change RH o1 _ (w.alloc (.cells #[.int .i64 0, .string { data := #[] }, .int .i64 0, .int .u64 0, .int .u64 0, .slice none 0 0] 25)) _ _ _ at hh
  change RAP o1 _ (w.alloc (.cells #[.int .i64 0, .string { data := #[] }, .int .i64 0, .int .u64 0, .int .u64 0, .slice none 0 0] 25)) _ _ at ha
  change MV o1 _ (w.alloc (.cells #[.int .i64 0, .string { data := #[] }, .int .i64 0, .int .u64 0, .int .u64 0, .slice none 0 0] 25)) _ _ _ _ _ _ _ at hM
  change Ext own o1 _ w (w.alloc (.cells #[.int .i64 0, .string { data := #[] }, .int .i64 0, .int .u64 0, .int .u64 0, .slice none 0 0] 25)) at x1
  rw [hW1] at kZ hb hh ha hM x1
  have c0 := Blk.cell hb 0 rfl
  have c1 := Blk.cell hb 1 rfl
  have c2 := Blk.cell hb 2 rfl
  have c3 := Blk.cell hb 3 rfl
  have c4 := Blk.cell hb 4 rfl
  have f3 := Blk.free hb 3
  have hF1 : F ∉ [idg] ∧ idg ∉ [F] ∧ idv ∉ [F] ∧ 0 ∉ [F] ∧ idh ∉ [idg] ∧ ida ∉ [idg] ∧ idv ∉ [idg] ∧ F ∉ [idv] ∧ idg ∉ [idv] ∧ idh ∉ [F] ∧ ida ∉ [F] ∧ F ∉ [idg, idv] := by
    have := hids.gh; have := hids.ga; have := hids.gv
    simp; omega
  have HF1 := Lib.hid hF1
  have y2 : Ext o1 o1 [idg] W1 (W1.setCell ⟨g, 3, none⟩ (.int .i64 ((n : Int) + 1))) := (Ext.refl o1 [idg] W1).setCell _ _ (fun _ => by show o1 g ∈ _; rw [hb.2]; simp)
  have hb2 : GB o1 idg (W1.setCell ⟨g, 3, none⟩ (.int .i64 ((n : Int) + 1))) g ph pa pm ((n : Int) + 1) 0 := Blk.set hb 3 _
  have hh2 := hh.keep y2 hF1.2.2.2.2.1
  have ha2 := ha.keep y2 hF1.2.2.2.2.2.1
  have hM2 := hM.keep y2 hF1.2.2.2.2.2.2.1
  have kZ2 := kZ.keep y2 hF1.1
  have x2 := x1.trans (y2.mono (by simp))
  obtain ⟨W2, hW2⟩ : ∃ W2, W1.setCell ⟨g, 3, none⟩ (.int .i64 ((n : Int) + 1)) = W2 := ⟨_, rfl⟩
  rw [hW2] at hb2 hh2 ha2 hM2 kZ2 x2
  have d0 := Blk.cell hb2 0 rfl
  have d3 := Blk.cell hb2 3 rfl
  have hwn : IntKind.i64.wrap ((n : Int) + 1) = (n : Int) + 1 := by rw [IntKind.wrap_i64]; omega
  obtain ⟨G, hG⟩ : ∃ G, getB l L f c n P = G := ⟨_, rfl⟩
  rw [hG]
  unfold getB at hG
  rw [if_neg h2000] at hG
  have hn2 : decide ((2000 : Int) < (n : Int) + 1) = false := decide_eq_false (by omega)
  have hdd : decide ((500 : Int) < d) = false := decide_eq_false (by omega)
  have hder := rderef_any o1 idh ph most c l W2 hh2 hc0 (fun x hx => (hl0 x hx).1)
  have hdr := derefF_rng hl0 (by decide) l.length c ⟨hc0, hc1⟩
  change 0 ≤ deref l c ∧ deref l c < 18446744073709551616 at hdr
  obtain ⟨D, hDD⟩ : ∃ D, deref l c = D := ⟨_, rfl⟩
  rw [hDD] at hder hdr hG hleaf
  have hT0 : ∀ w, Calls Try.prog 133 #[.int .u64 D] w fun e w' => e = .returned (.int .i64 (D % 8)) ∧ w' = w := fun w => rtag_any D w
  have hV0 : ∀ w, Calls Try.prog 132 #[.int .u64 D] w fun e w' => e = .returned (.int .u64 (D / 8)) ∧ w' = w := fun w => rvalue_any D w
  have HD := Lib.hid hder
  have HT := Lib.hid hT0
  have HVA := Lib.hid hV0
  have HB := Lib.hid (And.intro kZ2 (And.intro x2 (And.intro hM2 (And.intro hb2 (And.intro ha2 hh2)))))
  have HFF := Lib.hid (show ∀ b, b < w.heap.size → own b < F from fun b hb => by have := hFF b hb; omega)
  have HR := Lib.hid (And.intro hdr (And.intro hids (And.intro hl0 (And.intro hll (And.intro hLL (And.intro hn hP))))))
  have HFB := Lib.hid (show F0 + idg + idh + ida + idv + 1 = F from hF)
  clear hFF hF hF0 hM hh ha hb y1 kZ hc0 hc1 hl0 hll hLL hn hP hder hT0 hV0 y2 hh2 ha2 hM2 kZ2 x2 hb2 hids hF1 hDD x1 hdr
  have HLF := Lib.hid hleaf
  clear hleaf
  have hD8 : 0 ≤ D / 8 := by have := HR.out.1.1; omega
  by_cases t0 : D % 8 = 0
  · rw [if_pos t0] at hG
    have q0 : (D % 8 == 0) = true := by simpa using t0
    by_cases hlp : (D / 8).toNat < l.length
    · have HV := Lib.hid (show D / 8 < (l.length : Int) by omega)
      obtain ⟨y0, hy0⟩ : ∃ y, l.getD (D / 8).toNat 0 = y := ⟨_, rfl⟩
      have HY := Lib.hid (show l[(D / 8).toNat]? = some y0 by rw [getD_mem hlp, hy0])
      have HLP := Lib.hid (show 0 < l.length by omega)
      rw [hy0] at hG
      have hnv : 0 ≤ D / 8 := by have := HR.out.1.1; omega
      by_cases hyd : y0 = D
      · have hyd2 := hyd.symm
        subst hyd2
        rw [if_pos ⟨HV.out, rfl⟩] at hG
        have hwV : IntKind.i64.wrap (D / 8) = D / 8 := by have := HR.out.1.2; rw [IntKind.wrap_i64]; omega
        have hwf : (Lit.int .i64 (D / 8)).wf = true := wfI64 (by have := HR.out.1.2; omega)
        by_cases hmem : D / 8 ∈ P
        · obtain ⟨m, hlook⟩ := look_mem P (D / 8) 0 hmem
          have hmet : metP P (D / 8) = P := by unfold metP; rw [if_pos hmem]
          rw [hmet, hlook, Option.getD_some] at hG
          subst hG
          have hmr : 0 ≤ m ∧ m ≤ 1000001 := by
            have h1 := numV_range P 0 (D / 8) (Int.le_refl _)
            rw [hlook] at h1
            have h3 := HR.out.2.2.2.2.2.2
            have h4 := HR.out.2.2.2.2.2.1
            simp only [Option.getD_some] at h1
            omega
          have HMR := Lib.hid hmr
          have HLK := Lib.hid hlook
          clear hmem hmet hlook hmr t0 hlp hyd
          go_enter Try.func95, Try.ntmps95
          go_wp2_with (first
            | (go_at_call 113; refine Calls.mono HD.out ?_; rintro e w9 ⟨rfl, n5, rfl⟩; have xd := (Ext.refl o1 [] W2).drewN n5; have kZ5 := HB.out.1.keep xd (by simp); have x5 := HB.out.2.1.trans (xd.mono (jds := [idg, idv]) (by simp)); have hM5 : RM o1 idv (W2.drewN n5) pm (numV P 0) := HB.out.2.2.1.keep xd (by simp); have hb5 : GB o1 idg (W2.drewN n5) g ph pa pm ((n : Int) + 1) 0 := Blk.keep HB.out.2.2.2.1 xd (by simp); have ha5 : RAP o1 ida (W2.drewN n5) pa L := HB.out.2.2.2.2.1.keep xd (by simp); have hh5 : RH o1 idh (W2.drewN n5) ph most l := HB.out.2.2.2.2.2.keep xd (by simp); obtain ⟨W5, hW5⟩ : ∃ W, W2.drewN n5 = W := ⟨_, rfl⟩; rw [hW5] at kZ5 x5 hM5 hb5 ha5 hh5 ⊢; have b0 := kZ5.cell 0 rfl; have b1 := kZ5.cell 1 rfl; have b2 := kZ5.cell 2 rfl; have b3 := kZ5.cell 3 rfl; have b4 := kZ5.cell 4 rfl; have b5 := kZ5.cell 5 rfl; have bf0 := kZ5.free 0; have bf1 := kZ5.free 1; have bf2 := kZ5.free 2; have bf3 := kZ5.free 3; have bf4 := kZ5.free 4; have bf5 := kZ5.free 5; have gp0 := Blk.cell hb5 0 rfl; have gp1 := Blk.cell hb5 1 rfl; have gp2 := Blk.cell hb5 2 rfl; have gp3 := Blk.cell hb5 3 rfl; have gp4 := Blk.cell hb5 4 rfl; have gpf4 := Blk.free hb5 4; obtain ⟨vh, kh, krr, _⟩ := id hh5; obtain ⟨gh, cph, rfl, _⟩ := krr.form_pos HLP.out; have hc0 := kh.cell 0 rfl; have hcv := krr.cell (D / 8).toNat (u := .int .u64 D) (by unfold words; rw [List.getElem?_map, HY.out]; rfl); have htn : ((D / 8 : Int)).toNat = (D / 8).toNat := rfl; have hlk := hM5.look_ok (t := 71) Try.underlying71 Try.underlying3 Try.underlying2 (zero_i64 _) (D / 8) hwf; rw [HLK.out] at hlk; simp only [Option.getD_some, Option.isSome_some, Option.getD_none, Option.isSome_none] at hlk)
            | (go_at_call 132; refine (HVA.out _).mono ?_; rintro e w9 ⟨rfl, hw9⟩; rw [hw9]; clear hw9)
            | (go_at_call 133; refine (HT.out _).mono ?_; rintro e w9 ⟨rfl, hw9⟩; rw [hw9]; clear hw9)
            | (go_at_call 134; refine (rin_true o1 idh ph most (D / 8) l W5 HV.out hh5).mono ?_; rintro e w9 ⟨rfl, hw9⟩; rw [hw9]; clear hw9)
            | (go_at_call 35; refine Calls.mono (r1var_any o1 m W5) ?_; rintro e w9 ⟨own9, x9, (rfl : e = .returned (.agg #[.int .i64 1, .string ByteArray.empty, .int .i64 m, .int .u64 0, .int .u64 0, .slice none 0 0]))⟩; have kZ9 := kZ5.keep x9 (by simp); have x59 := x5.trans (x9.mono (jds := [idg, idv]) (by simp)); have b0 := kZ9.cell 0 rfl; have b1 := kZ9.cell 1 rfl; have b2 := kZ9.cell 2 rfl; have b3 := kZ9.cell 3 rfl; have b4 := kZ9.cell 4 rfl; have b5 := kZ9.cell 5 rfl; have bf0 := kZ9.free 0; have bf1 := kZ9.free 1; have bf2 := kZ9.free 2; have bf3 := kZ9.free 3; have bf4 := kZ9.free 4; have bf5 := kZ9.free 5))
          have HE := Lib.hid (store_resI (v0 := .int .i64 1) (v1 := .string ByteArray.empty) (v2 := .int .i64 m) (v3 := .int .u64 0) (v4 := .int .u64 0) (v5 := .slice none 0 0) x59 (Nat.le_refl _) kZ9)
          (try simp only [Exit.inBlock, Exit.then])
          refine bodyPost_ret (v := .agg #[.int .i64 1, .string ByteArray.empty, .int .i64 m, .int .u64 0, .int .u64 0, .slice none 0 0]) ?_ rfl ?_
          · rw [results_cell1 rfl]
            have kk := HE.out.2.2
            have z0 := kk.cell 0 rfl
            have z1 := kk.cell 1 rfl
            have z2 := kk.cell 2 rfl
            have z3 := kk.cell 3 rfl
            have z4 := kk.cell 4 rfl
            have z5 := kk.cell 5 rfl
            go_simp
            try rfl
          · have hT9 := TmS.keep HE.out.2.1 HF1.out.2.2.2.1 _ _ (leaf_term (own := own9) (w := w9) (k := 1) (n := m) (re := 0) (im := 0) (s := ByteArray.empty) ⟨by decide, by have := HMR.out; omega, by decide, by decide, by decide⟩)
            exact ⟨own9, HE.out.1, RGetEnd.good (c := .var m) (GB.succ (Blk.keep (Blk.keep hb5 x9 (by simp)) HE.out.2.1 HF1.out.2.1)) ((hM5.keep x9 (by simp)).keep HE.out.2.1 HF1.out.2.2.1) hT9⟩
        · have hlook := numV_none P (D / 8) 0 hmem
          have hmet : metP P (D / 8) = P ++ [D / 8] := by unfold metP; rw [if_neg hmem]
          have hPl : P.length ≤ 1000000 := by have h3 := HR.out.2.2.2.2.2.2; have h4 := HR.out.2.2.2.2.2.1; omega
          have hwfP : (Lit.int .i64 (P.length : Int)).wf = true := wfI64 (by omega)
          have hlen9 : (numV P 0).length < 1000000000 := by rw [numV_length]; omega
          have hnv2 : numV P 0 ++ [(D / 8, (P.length : Int))] = numV (P ++ [D / 8]) 0 := by rw [numV_append]; simp
          have hl2 : look (numV (P ++ [D / 8]) 0) (D / 8) = some (P.length : Int) := by rw [← hnv2, look_new hlook]
          rw [hmet, hl2, Option.getD_some] at hG
          subst hG
          have HMR := Lib.hid hPl
          have HLK := Lib.hid (And.intro hlook (And.intro hnv2 hlen9))
          clear hmem hmet hlook hPl hnv2 hl2 hlen9 t0 hlp hyd
          go_enter Try.func95, Try.ntmps95
          go_wp2_with (first
            | (go_at_call 113; refine Calls.mono HD.out ?_; rintro e w9 ⟨rfl, n5, rfl⟩; have xd := (Ext.refl o1 [] W2).drewN n5; have kZ5 := HB.out.1.keep xd (by simp); have x5 := HB.out.2.1.trans (xd.mono (jds := [idg, idv]) (by simp)); have hM5 : RM o1 idv (W2.drewN n5) pm (numV P 0) := HB.out.2.2.1.keep xd (by simp); have hb5 : GB o1 idg (W2.drewN n5) g ph pa pm ((n : Int) + 1) 0 := Blk.keep HB.out.2.2.2.1 xd (by simp); have ha5 : RAP o1 ida (W2.drewN n5) pa L := HB.out.2.2.2.2.1.keep xd (by simp); have hh5 : RH o1 idh (W2.drewN n5) ph most l := HB.out.2.2.2.2.2.keep xd (by simp); obtain ⟨W5, hW5⟩ : ∃ W, W2.drewN n5 = W := ⟨_, rfl⟩; rw [hW5] at kZ5 x5 hM5 hb5 ha5 hh5 ⊢; have b0 := kZ5.cell 0 rfl; have b1 := kZ5.cell 1 rfl; have b2 := kZ5.cell 2 rfl; have b3 := kZ5.cell 3 rfl; have b4 := kZ5.cell 4 rfl; have b5 := kZ5.cell 5 rfl; have bf0 := kZ5.free 0; have bf1 := kZ5.free 1; have bf2 := kZ5.free 2; have bf3 := kZ5.free 3; have bf4 := kZ5.free 4; have bf5 := kZ5.free 5; have gp0 := Blk.cell hb5 0 rfl; have gp1 := Blk.cell hb5 1 rfl; have gp2 := Blk.cell hb5 2 rfl; have gp3 := Blk.cell hb5 3 rfl; have gp4 := Blk.cell hb5 4 rfl; have gpf4 := Blk.free hb5 4; obtain ⟨vh, kh, krr, _⟩ := id hh5; obtain ⟨gh, cph, rfl, _⟩ := krr.form_pos HLP.out; have hc0 := kh.cell 0 rfl; have hcv := krr.cell (D / 8).toNat (u := .int .u64 D) (by unfold words; rw [List.getElem?_map, HY.out]; rfl); have htn : ((D / 8 : Int)).toNat = (D / 8).toNat := rfl; have hlk := hM5.look_ok (t := 71) Try.underlying71 Try.underlying3 Try.underlying2 (zero_i64 _) (D / 8) hwf; rw [HLK.out.1] at hlk; simp only [Option.getD_some, Option.isSome_some, Option.getD_none, Option.isSome_none] at hlk; obtain ⟨w7, hput, hM7, x7, g7⟩ := MV.put hM5 (t := 71) Try.underlying71 Try.underlying3 Try.underlying2 (D / 8) (P.length : Int) hwf hwfP HLK.out.1 HLK.out.2.2; have kZ7 := kZ5.keep x7 HF1.out.2.2.2.2.2.2.2.1; have hb7 : GB o1 idg w7 g ph pa pm ((n : Int) + 1) 0 := Blk.keep hb5 x7 HF1.out.2.2.2.2.2.2.2.2.1; have x57 := x5.trans (x7.mono (jds := [idg, idv]) (by simp)); have hln := hM5.len (t := 71) Try.underlying71; rw [numV_length] at hln; rw [HLK.out.2.1] at hM7; have HM7 := Lib.hid hM7; clear hM7)
            | (go_at_call 132; refine (HVA.out _).mono ?_; rintro e w9 ⟨rfl, hw9⟩; rw [hw9]; clear hw9)
            | (go_at_call 133; refine (HT.out _).mono ?_; rintro e w9 ⟨rfl, hw9⟩; rw [hw9]; clear hw9)
            | (go_at_call 134; refine (rin_true o1 idh ph most (D / 8) l W5 HV.out hh5).mono ?_; rintro e w9 ⟨rfl, hw9⟩; rw [hw9]; clear hw9)
            | (go_at_call 35; refine Calls.mono (r1var_any o1 (P.length : Int) w7) ?_; rintro e w9 ⟨own9, x9, (rfl : e = .returned (.agg #[.int .i64 1, .string ByteArray.empty, .int .i64 P.length, .int .u64 0, .int .u64 0, .slice none 0 0]))⟩; have kZ9 := kZ7.keep x9 (by simp); have x59 := x57.trans (x9.mono (jds := [idg, idv]) (by simp)); have b0 := kZ9.cell 0 rfl; have b1 := kZ9.cell 1 rfl; have b2 := kZ9.cell 2 rfl; have b3 := kZ9.cell 3 rfl; have b4 := kZ9.cell 4 rfl; have b5 := kZ9.cell 5 rfl; have bf0 := kZ9.free 0; have bf1 := kZ9.free 1; have bf2 := kZ9.free 2; have bf3 := kZ9.free 3; have bf4 := kZ9.free 4; have bf5 := kZ9.free 5))
          have HE := Lib.hid (store_resI (v0 := .int .i64 1) (v1 := .string ByteArray.empty) (v2 := .int .i64 P.length) (v3 := .int .u64 0) (v4 := .int .u64 0) (v5 := .slice none 0 0) x59 (Nat.le_refl _) kZ9)
          (try simp only [Exit.inBlock, Exit.then])
          refine bodyPost_ret (v := .agg #[.int .i64 1, .string ByteArray.empty, .int .i64 P.length, .int .u64 0, .int .u64 0, .slice none 0 0]) ?_ rfl ?_
          · rw [results_cell1 rfl]
            have kk := HE.out.2.2
            have z0 := kk.cell 0 rfl
            have z1 := kk.cell 1 rfl
            have z2 := kk.cell 2 rfl
            have z3 := kk.cell 3 rfl
            have z4 := kk.cell 4 rfl
            have z5 := kk.cell 5 rfl
            go_simp
            try rfl
          · have hT9 := TmS.keep HE.out.2.1 HF1.out.2.2.2.1 _ _ (leaf_term (own := own9) (w := w9) (k := 1) (n := (P.length : Int)) (re := 0) (im := 0) (s := ByteArray.empty) ⟨by decide, by have := HMR.out; omega, by decide, by decide, by decide⟩)
            exact ⟨own9, HE.out.1, RGetEnd.good (c := .var (P.length : Int)) (GB.succ (Blk.keep (Blk.keep hb7 x9 (by simp)) HE.out.2.1 HF1.out.2.1)) ((HM7.out.keep x9 (by simp)).keep HE.out.2.1 HF1.out.2.2.1) hT9⟩
      · rw [if_neg (fun h => hyd h.2)] at hG
        subst hG
        have hyn : (y0 != D) = true := by simpa using hyd
        clear t0 hyd hy0 hlp
        go_enter Try.func95, Try.ntmps95
        go_wp2_with (first
          | (go_at_call 113; refine Calls.mono HD.out ?_; rintro e w9 ⟨rfl, n5, rfl⟩; have xd := (Ext.refl o1 [] W2).drewN n5; have kZ5 := HB.out.1.keep xd (by simp); have x5 := HB.out.2.1.trans (xd.mono (jds := [idg, idv]) (by simp)); have hM5 : RM o1 idv (W2.drewN n5) pm (numV P 0) := HB.out.2.2.1.keep xd (by simp); have hb5 : GB o1 idg (W2.drewN n5) g ph pa pm ((n : Int) + 1) 0 := Blk.keep HB.out.2.2.2.1 xd (by simp); have ha5 : RAP o1 ida (W2.drewN n5) pa L := HB.out.2.2.2.2.1.keep xd (by simp); have hh5 : RH o1 idh (W2.drewN n5) ph most l := HB.out.2.2.2.2.2.keep xd (by simp); obtain ⟨W5, hW5⟩ : ∃ W, W2.drewN n5 = W := ⟨_, rfl⟩; rw [hW5] at kZ5 x5 hM5 hb5 ha5 hh5 ⊢; have b0 := kZ5.cell 0 rfl; have b1 := kZ5.cell 1 rfl; have b2 := kZ5.cell 2 rfl; have b3 := kZ5.cell 3 rfl; have b4 := kZ5.cell 4 rfl; have b5 := kZ5.cell 5 rfl; have bf0 := kZ5.free 0; have bf1 := kZ5.free 1; have bf2 := kZ5.free 2; have bf3 := kZ5.free 3; have bf4 := kZ5.free 4; have bf5 := kZ5.free 5; have gp0 := Blk.cell hb5 0 rfl; have gp1 := Blk.cell hb5 1 rfl; have gp2 := Blk.cell hb5 2 rfl; have gp3 := Blk.cell hb5 3 rfl; have gp4 := Blk.cell hb5 4 rfl; have gpf4 := Blk.free hb5 4; have yW6 : Ext o1 o1 [idg] W5 (W5.setCell ⟨g, 4, none⟩ (.int .i64 2)) := (Ext.refl o1 [idg] W5).setCell _ _ (fun _ => (by show o1 g ∈ _; rw [hb5.2]; simp)); have hW6 := Blk.set hb5 4 (.int .i64 2); obtain ⟨W6, hqW6⟩ : ∃ W, W5.setCell ⟨g, 4, none⟩ (.int .i64 2) = W := ⟨_, rfl⟩; rw [hqW6] at yW6 hW6; replace hW6 : GB o1 idg W6 g ph pa pm ((n : Int) + 1) 2 := hW6; have kW6 := kZ5.keep yW6 HF1.out.1; have xW6 := x5.trans (yW6.mono (jds := [idg, idv]) (by simp)); have b0 := kW6.cell 0 rfl; have b1 := kW6.cell 1 rfl; have b2 := kW6.cell 2 rfl; have b3 := kW6.cell 3 rfl; have b4 := kW6.cell 4 rfl; have b5 := kW6.cell 5 rfl; have bf0 := kW6.free 0; have bf1 := kW6.free 1; have bf2 := kW6.free 2; have bf3 := kW6.free 3; have bf4 := kW6.free 4; have bf5 := kW6.free 5; obtain ⟨vh, kh, krr, _⟩ := id hh5; obtain ⟨gh, cph, rfl, _⟩ := krr.form_pos HLP.out; have hc0 := kh.cell 0 rfl; have hcv := krr.cell (D / 8).toNat (u := .int .u64 y0) (by unfold words; rw [List.getElem?_map, HY.out]; rfl); have htn : ((D / 8 : Int)).toNat = (D / 8).toNat := rfl)
          | (go_at_call 132; refine (HVA.out _).mono ?_; rintro e w9 ⟨rfl, hw9⟩; rw [hw9]; clear hw9)
          | (go_at_call 133; refine (HT.out _).mono ?_; rintro e w9 ⟨rfl, hw9⟩; rw [hw9]; clear hw9)
          | (go_at_call 134; refine (rin_true o1 idh ph most (D / 8) l W5 HV.out hh5).mono ?_; rintro e w9 ⟨rfl, hw9⟩; rw [hw9]; clear hw9))
        have HE := Lib.hid (store_resI (v0 := .int .i64 0) (v1 := .string { data := #[] }) (v2 := .int .i64 0) (v3 := .int .u64 0) (v4 := .int .u64 0) (v5 := .slice none 0 0) xW6 (Nat.le_refl _) kW6)
        (try simp only [Exit.inBlock, Exit.then])
        refine bodyPost_ret (v := .agg #[.int .i64 0, .string ByteArray.empty, .int .i64 0, .int .u64 0, .int .u64 0, .slice none 0 0]) ?_ rfl ?_
        · rw [results_cell1 rfl]
          have kk := HE.out.2.2
          have z0 := kk.cell 0 rfl
          have z1 := kk.cell 1 rfl
          have z2 := kk.cell 2 rfl
          have z3 := kk.cell 3 rfl
          have z4 := kk.cell 4 rfl
          have z5 := kk.cell 5 rfl
          go_simp
          try rfl
        · exact ⟨o1, HE.out.1, RGetEnd.bad (er := 2) (Blk.keep hW6 HE.out.2.1 HF1.out.2.1) (by decide)⟩
    · rw [if_neg (fun h => hlp (by have := h.1; omega))] at hG
      subst hG
      have HV := Lib.hid (show ¬ D / 8 < (l.length : Int) by omega)
      clear t0 hlp
      go_enter Try.func95, Try.ntmps95
      go_wp2_with (first
        | (go_at_call 113; refine Calls.mono HD.out ?_; rintro e w9 ⟨rfl, n5, rfl⟩; have xd := (Ext.refl o1 [] W2).drewN n5; have kZ5 := HB.out.1.keep xd (by simp); have x5 := HB.out.2.1.trans (xd.mono (jds := [idg, idv]) (by simp)); have hM5 : RM o1 idv (W2.drewN n5) pm (numV P 0) := HB.out.2.2.1.keep xd (by simp); have hb5 : GB o1 idg (W2.drewN n5) g ph pa pm ((n : Int) + 1) 0 := Blk.keep HB.out.2.2.2.1 xd (by simp); have ha5 : RAP o1 ida (W2.drewN n5) pa L := HB.out.2.2.2.2.1.keep xd (by simp); have hh5 : RH o1 idh (W2.drewN n5) ph most l := HB.out.2.2.2.2.2.keep xd (by simp); obtain ⟨W5, hW5⟩ : ∃ W, W2.drewN n5 = W := ⟨_, rfl⟩; rw [hW5] at kZ5 x5 hM5 hb5 ha5 hh5 ⊢; have b0 := kZ5.cell 0 rfl; have b1 := kZ5.cell 1 rfl; have b2 := kZ5.cell 2 rfl; have b3 := kZ5.cell 3 rfl; have b4 := kZ5.cell 4 rfl; have b5 := kZ5.cell 5 rfl; have bf0 := kZ5.free 0; have bf1 := kZ5.free 1; have bf2 := kZ5.free 2; have bf3 := kZ5.free 3; have bf4 := kZ5.free 4; have bf5 := kZ5.free 5; have gp0 := Blk.cell hb5 0 rfl; have gp1 := Blk.cell hb5 1 rfl; have gp2 := Blk.cell hb5 2 rfl; have gp3 := Blk.cell hb5 3 rfl; have gp4 := Blk.cell hb5 4 rfl; have gpf4 := Blk.free hb5 4; have yW6 : Ext o1 o1 [idg] W5 (W5.setCell ⟨g, 4, none⟩ (.int .i64 2)) := (Ext.refl o1 [idg] W5).setCell _ _ (fun _ => (by show o1 g ∈ _; rw [hb5.2]; simp)); have hW6 := Blk.set hb5 4 (.int .i64 2); obtain ⟨W6, hqW6⟩ : ∃ W, W5.setCell ⟨g, 4, none⟩ (.int .i64 2) = W := ⟨_, rfl⟩; rw [hqW6] at yW6 hW6; replace hW6 : GB o1 idg W6 g ph pa pm ((n : Int) + 1) 2 := hW6; have kW6 := kZ5.keep yW6 HF1.out.1; have xW6 := x5.trans (yW6.mono (jds := [idg, idv]) (by simp)); have b0 := kW6.cell 0 rfl; have b1 := kW6.cell 1 rfl; have b2 := kW6.cell 2 rfl; have b3 := kW6.cell 3 rfl; have b4 := kW6.cell 4 rfl; have b5 := kW6.cell 5 rfl; have bf0 := kW6.free 0; have bf1 := kW6.free 1; have bf2 := kW6.free 2; have bf3 := kW6.free 3; have bf4 := kW6.free 4; have bf5 := kW6.free 5)
        | (go_at_call 132; refine (HVA.out _).mono ?_; rintro e w9 ⟨rfl, hw9⟩; rw [hw9]; clear hw9)
        | (go_at_call 133; refine (HT.out _).mono ?_; rintro e w9 ⟨rfl, hw9⟩; rw [hw9]; clear hw9)
        | (go_at_call 134; refine (rin_false o1 idh ph most (D / 8) l W5 (by have := HV.out; omega) hh5).mono ?_; rintro e w9 ⟨rfl, hw9⟩; rw [hw9]; clear hw9))
      have HE := Lib.hid (store_resI (v0 := .int .i64 0) (v1 := .string { data := #[] }) (v2 := .int .i64 0) (v3 := .int .u64 0) (v4 := .int .u64 0) (v5 := .slice none 0 0) xW6 (Nat.le_refl _) kW6)
      (try simp only [Exit.inBlock, Exit.then])
      refine bodyPost_ret (v := .agg #[.int .i64 0, .string ByteArray.empty, .int .i64 0, .int .u64 0, .int .u64 0, .slice none 0 0]) ?_ rfl ?_
      · rw [results_cell1 rfl]
        have kk := HE.out.2.2
        have z0 := kk.cell 0 rfl
        have z1 := kk.cell 1 rfl
        have z2 := kk.cell 2 rfl
        have z3 := kk.cell 3 rfl
        have z4 := kk.cell 4 rfl
        have z5 := kk.cell 5 rfl
        go_simp
        try rfl
      · exact ⟨o1, HE.out.1, RGetEnd.bad (er := 2) (Blk.keep hW6 HE.out.2.1 HF1.out.2.1) (by decide)⟩
  · rw [if_neg t0, if_neg HLF.out] at hG
    have q0 : (D % 8 == 0) = false := by simpa using t0
    by_cases t2 : D % 8 = 2
    · rw [if_pos t2] at hG
      have q2 : (D % 8 == 2) = true := by simpa using t2
      by_cases hin : D / 8 < (L.length : Int)
      · rw [if_pos hin] at hG
        obtain ⟨sn, hsn⟩ : ∃ s, L.getD (D / 8).toNat ByteArray.empty = s := ⟨_, rfl⟩
        have hsz : sn.size ≤ maxLen := by
          have hs := HB.out.2.2.2.2.1.names.short sn (by rw [← hsn]; simp only [List.getD, List.getElem?_eq_getElem (show (D / 8).toNat < L.length by omega), Option.getD_some]; exact List.getElem_mem _)
          unfold maxLen; omega
        have HSZ := Lib.hid hsz
        have HAT := Lib.hid (And.intro hin hsn)
        rw [hsn] at hG
        subst hG
        clear t0 t2 hin hsn hsz
        go_enter Try.func95, Try.ntmps95
        go_wp2_with (first
          | (go_at_call 113; refine Calls.mono HD.out ?_; rintro e w9 ⟨rfl, n5, rfl⟩; have xd := (Ext.refl o1 [] W2).drewN n5; have kZ5 := HB.out.1.keep xd (by simp); have x5 := HB.out.2.1.trans (xd.mono (jds := [idg, idv]) (by simp)); have hM5 : RM o1 idv (W2.drewN n5) pm (numV P 0) := HB.out.2.2.1.keep xd (by simp); have hb5 : GB o1 idg (W2.drewN n5) g ph pa pm ((n : Int) + 1) 0 := Blk.keep HB.out.2.2.2.1 xd (by simp); have ha5 : RAP o1 ida (W2.drewN n5) pa L := HB.out.2.2.2.2.1.keep xd (by simp); have hh5 : RH o1 idh (W2.drewN n5) ph most l := HB.out.2.2.2.2.2.keep xd (by simp); obtain ⟨W5, hW5⟩ : ∃ W, W2.drewN n5 = W := ⟨_, rfl⟩; rw [hW5] at kZ5 x5 hM5 hb5 ha5 hh5 ⊢; have b0 := kZ5.cell 0 rfl; have b1 := kZ5.cell 1 rfl; have b2 := kZ5.cell 2 rfl; have b3 := kZ5.cell 3 rfl; have b4 := kZ5.cell 4 rfl; have b5 := kZ5.cell 5 rfl; have bf0 := kZ5.free 0; have bf1 := kZ5.free 1; have bf2 := kZ5.free 2; have bf3 := kZ5.free 3; have bf4 := kZ5.free 4; have bf5 := kZ5.free 5; have gp0 := Blk.cell hb5 0 rfl; have gp1 := Blk.cell hb5 1 rfl; have gp2 := Blk.cell hb5 2 rfl; have gp3 := Blk.cell hb5 3 rfl; have gp4 := Blk.cell hb5 4 rfl; have gpf4 := Blk.free hb5 4)
          | (go_at_call 132; refine (HVA.out _).mono ?_; rintro e w9 ⟨rfl, hw9⟩; rw [hw9]; clear hw9)
          | (go_at_call 133; refine (HT.out _).mono ?_; rintro e w9 ⟨rfl, hw9⟩; rw [hw9]; clear hw9)
          | (go_at_call 135; refine Calls.mono (by have z := rname_in o1 idg ida W5 g ph pa pm _ 0 (D / 8) L hb5 ha5 hD8 HAT.out.1 HR.out.2.2.2.2.1; rw [HAT.out.2] at z; exact z) ?_; rintro e w9 ⟨rfl, n6, rfl⟩; have xe := (Ext.refl o1 [] W5).drewN n6; have kZ6 := kZ5.keep xe (by simp); have x6 := x5.trans (xe.mono (jds := [idg, idv]) (by simp)); have hb6 : GB o1 idg (W5.drewN n6) g ph pa pm ((n : Int) + 1) 0 := Blk.keep hb5 xe (by simp); have hM6 : RM o1 idv (W5.drewN n6) pm (numV P 0) := hM5.keep xe (by simp))
          | (go_at_call 76; refine Calls.mono (r1atom_any o1 sn (W5.drewN n6)) ?_; rintro e w9 ⟨own9, x9, (rfl : e = .returned (.agg #[.int .i64 2, .string sn, .int .i64 0, .int .u64 0, .int .u64 0, .slice none 0 0]))⟩; have kZ9 := kZ6.keep x9 (by simp); have x59 := x6.trans (x9.mono (jds := [idg, idv]) (by simp)); have b0 := kZ9.cell 0 rfl; have b1 := kZ9.cell 1 rfl; have b2 := kZ9.cell 2 rfl; have b3 := kZ9.cell 3 rfl; have b4 := kZ9.cell 4 rfl; have b5 := kZ9.cell 5 rfl; have bf0 := kZ9.free 0; have bf1 := kZ9.free 1; have bf2 := kZ9.free 2; have bf3 := kZ9.free 3; have bf4 := kZ9.free 4; have bf5 := kZ9.free 5))
        have HE := Lib.hid (store_resI (v0 := .int .i64 2) (v1 := .string sn) (v2 := .int .i64 0) (v3 := .int .u64 0) (v4 := .int .u64 0) (v5 := .slice none 0 0) x59 (Nat.le_refl _) kZ9)
        (try simp only [Exit.inBlock, Exit.then])
        refine bodyPost_ret (v := .agg #[.int .i64 2, .string sn, .int .i64 0, .int .u64 0, .int .u64 0, .slice none 0 0]) ?_ rfl ?_
        · rw [results_cell1 rfl]
          have kk := HE.out.2.2
          have z0 := kk.cell 0 rfl
          have z1 := kk.cell 1 rfl
          have z2 := kk.cell 2 rfl
          have z3 := kk.cell 3 rfl
          have z4 := kk.cell 4 rfl
          have z5 := kk.cell 5 rfl
          go_simp
          try rfl
        · have hT9 := TmS.keep HE.out.2.1 HF1.out.2.2.2.1 _ _ (leaf_term (own := own9) (w := w9) (k := 2) (n := 0) (re := 0) (im := 0) (s := sn) ⟨by decide, by decide, by decide, by decide, HSZ.out⟩)
          exact ⟨own9, HE.out.1, RGetEnd.good (c := .atom sn) (GB.succ (Blk.keep (Blk.keep hb6 x9 (by simp)) HE.out.2.1 HF1.out.2.1)) ((hM6.keep x9 (by simp)).keep HE.out.2.1 HF1.out.2.2.1) hT9⟩
      · rw [if_neg hin] at hG
        subst hG
        have HAT := Lib.hid hin
        clear t0 t2 hin
        go_enter Try.func95, Try.ntmps95
        go_wp2_with (first
          | (go_at_call 113; refine Calls.mono HD.out ?_; rintro e w9 ⟨rfl, n5, rfl⟩; have xd := (Ext.refl o1 [] W2).drewN n5; have kZ5 := HB.out.1.keep xd (by simp); have x5 := HB.out.2.1.trans (xd.mono (jds := [idg, idv]) (by simp)); have hM5 : RM o1 idv (W2.drewN n5) pm (numV P 0) := HB.out.2.2.1.keep xd (by simp); have hb5 : GB o1 idg (W2.drewN n5) g ph pa pm ((n : Int) + 1) 0 := Blk.keep HB.out.2.2.2.1 xd (by simp); have ha5 : RAP o1 ida (W2.drewN n5) pa L := HB.out.2.2.2.2.1.keep xd (by simp); have hh5 : RH o1 idh (W2.drewN n5) ph most l := HB.out.2.2.2.2.2.keep xd (by simp); obtain ⟨W5, hW5⟩ : ∃ W, W2.drewN n5 = W := ⟨_, rfl⟩; rw [hW5] at kZ5 x5 hM5 hb5 ha5 hh5 ⊢; have b0 := kZ5.cell 0 rfl; have b1 := kZ5.cell 1 rfl; have b2 := kZ5.cell 2 rfl; have b3 := kZ5.cell 3 rfl; have b4 := kZ5.cell 4 rfl; have b5 := kZ5.cell 5 rfl; have bf0 := kZ5.free 0; have bf1 := kZ5.free 1; have bf2 := kZ5.free 2; have bf3 := kZ5.free 3; have bf4 := kZ5.free 4; have bf5 := kZ5.free 5; have gp0 := Blk.cell hb5 0 rfl; have gp1 := Blk.cell hb5 1 rfl; have gp2 := Blk.cell hb5 2 rfl; have gp3 := Blk.cell hb5 3 rfl; have gp4 := Blk.cell hb5 4 rfl; have gpf4 := Blk.free hb5 4)
          | (go_at_call 132; refine (HVA.out _).mono ?_; rintro e w9 ⟨rfl, hw9⟩; rw [hw9]; clear hw9)
          | (go_at_call 133; refine (HT.out _).mono ?_; rintro e w9 ⟨rfl, hw9⟩; rw [hw9]; clear hw9)
          | (go_at_call 135; refine Calls.mono (rname_out o1 idg ida W5 g ph pa pm _ 0 (D / 8) L hb5 ha5 (by have := HAT.out; omega) (by have := HR.out.1.2; omega) HR.out.2.2.2.2.1) ?_; rintro e w6 ⟨own6, x6, rfl, hb6⟩; have kZ6 := kZ5.keep x6 HF1.out.1; have x56 := x5.trans (x6.mono (jds := [idg, idv]) (by simp)))
          | (go_at_call 76; refine Calls.mono (r1atom_any own6 ByteArray.empty w6) ?_; rintro e w9 ⟨own9, x9, (rfl : e = .returned (.agg #[.int .i64 2, .string ByteArray.empty, .int .i64 0, .int .u64 0, .int .u64 0, .slice none 0 0]))⟩; have kZ9 := kZ6.keep x9 (by simp); have x59 := x56.trans (x9.mono (jds := [idg, idv]) (by simp)); have b0 := kZ9.cell 0 rfl; have b1 := kZ9.cell 1 rfl; have b2 := kZ9.cell 2 rfl; have b3 := kZ9.cell 3 rfl; have b4 := kZ9.cell 4 rfl; have b5 := kZ9.cell 5 rfl; have bf0 := kZ9.free 0; have bf1 := kZ9.free 1; have bf2 := kZ9.free 2; have bf3 := kZ9.free 3; have bf4 := kZ9.free 4; have bf5 := kZ9.free 5))
        have HE := Lib.hid (store_resI (v0 := .int .i64 2) (v1 := .string ByteArray.empty) (v2 := .int .i64 0) (v3 := .int .u64 0) (v4 := .int .u64 0) (v5 := .slice none 0 0) x59 (Nat.le_refl _) kZ9)
        (try simp only [Exit.inBlock, Exit.then])
        refine bodyPost_ret (v := .agg #[.int .i64 2, .string ByteArray.empty, .int .i64 0, .int .u64 0, .int .u64 0, .slice none 0 0]) ?_ rfl ?_
        · rw [results_cell1 rfl]
          have kk := HE.out.2.2
          have z0 := kk.cell 0 rfl
          have z1 := kk.cell 1 rfl
          have z2 := kk.cell 2 rfl
          have z3 := kk.cell 3 rfl
          have z4 := kk.cell 4 rfl
          have z5 := kk.cell 5 rfl
          go_simp
          try rfl
        · exact ⟨own9, HE.out.1, RGetEnd.bad (er := 2) (Blk.keep (Blk.keep hb6 x9 (by simp)) HE.out.2.1 HF1.out.2.1) (by decide)⟩
    · rw [if_neg t2] at hG
      have q2 : (D % 8 == 2) = false := by simpa using t2
      by_cases t3 : D % 8 = 3
      · rw [if_pos t3] at hG
        have q3 : (D % 8 == 3) = true := by simpa using t3
        subst hG
        clear t0 t2 t3
        go_enter Try.func95, Try.ntmps95
        go_wp2_with (first
          | (go_at_call 113; refine Calls.mono HD.out ?_; rintro e w9 ⟨rfl, n5, rfl⟩; have xd := (Ext.refl o1 [] W2).drewN n5; have kZ5 := HB.out.1.keep xd (by simp); have x5 := HB.out.2.1.trans (xd.mono (jds := [idg, idv]) (by simp)); have hM5 : RM o1 idv (W2.drewN n5) pm (numV P 0) := HB.out.2.2.1.keep xd (by simp); have hb5 : GB o1 idg (W2.drewN n5) g ph pa pm ((n : Int) + 1) 0 := Blk.keep HB.out.2.2.2.1 xd (by simp); have ha5 : RAP o1 ida (W2.drewN n5) pa L := HB.out.2.2.2.2.1.keep xd (by simp); have hh5 : RH o1 idh (W2.drewN n5) ph most l := HB.out.2.2.2.2.2.keep xd (by simp); obtain ⟨W5, hW5⟩ : ∃ W, W2.drewN n5 = W := ⟨_, rfl⟩; rw [hW5] at kZ5 x5 hM5 hb5 ha5 hh5 ⊢; have b0 := kZ5.cell 0 rfl; have b1 := kZ5.cell 1 rfl; have b2 := kZ5.cell 2 rfl; have b3 := kZ5.cell 3 rfl; have b4 := kZ5.cell 4 rfl; have b5 := kZ5.cell 5 rfl; have bf0 := kZ5.free 0; have bf1 := kZ5.free 1; have bf2 := kZ5.free 2; have bf3 := kZ5.free 3; have bf4 := kZ5.free 4; have bf5 := kZ5.free 5; have gp0 := Blk.cell hb5 0 rfl; have gp1 := Blk.cell hb5 1 rfl; have gp2 := Blk.cell hb5 2 rfl; have gp3 := Blk.cell hb5 3 rfl; have gp4 := Blk.cell hb5 4 rfl; have gpf4 := Blk.free hb5 4)
          | (go_at_call 132; refine (HVA.out _).mono ?_; rintro e w9 ⟨rfl, hw9⟩; rw [hw9]; clear hw9)
          | (go_at_call 133; refine (HT.out _).mono ?_; rintro e w9 ⟨rfl, hw9⟩; rw [hw9]; clear hw9)
          | (go_at_call 137; refine (rint_any D _).mono ?_; rintro e w9 ⟨rfl, hw9⟩; rw [hw9]; clear hw9)
          | (go_at_call 136; refine Calls.mono (r1int_any o1 (intC D) W5) ?_; rintro e w9 ⟨own9, x9, (rfl : e = .returned (.agg #[.int .i64 3, .string ByteArray.empty, .int .i64 (intC D), .int .u64 0, .int .u64 0, .slice none 0 0]))⟩; have kZ9 := kZ5.keep x9 (by simp); have x59 := x5.trans (x9.mono (jds := [idg, idv]) (by simp)); have b0 := kZ9.cell 0 rfl; have b1 := kZ9.cell 1 rfl; have b2 := kZ9.cell 2 rfl; have b3 := kZ9.cell 3 rfl; have b4 := kZ9.cell 4 rfl; have b5 := kZ9.cell 5 rfl; have bf0 := kZ9.free 0; have bf1 := kZ9.free 1; have bf2 := kZ9.free 2; have bf3 := kZ9.free 3; have bf4 := kZ9.free 4; have bf5 := kZ9.free 5))
        have HE := Lib.hid (store_resI (v0 := .int .i64 3) (v1 := .string ByteArray.empty) (v2 := .int .i64 (intC D)) (v3 := .int .u64 0) (v4 := .int .u64 0) (v5 := .slice none 0 0) x59 (Nat.le_refl _) kZ9)
        (try simp only [Exit.inBlock, Exit.then])
        refine bodyPost_ret (v := .agg #[.int .i64 3, .string ByteArray.empty, .int .i64 (intC D), .int .u64 0, .int .u64 0, .slice none 0 0]) ?_ rfl ?_
        · rw [results_cell1 rfl]
          have kk := HE.out.2.2
          have z0 := kk.cell 0 rfl
          have z1 := kk.cell 1 rfl
          have z2 := kk.cell 2 rfl
          have z3 := kk.cell 3 rfl
          have z4 := kk.cell 4 rfl
          have z5 := kk.cell 5 rfl
          go_simp
          try rfl
        · have hT9 := TmS.keep HE.out.2.1 HF1.out.2.2.2.1 _ _ (leaf_term (own := own9) (w := w9) (k := 3) (n := intC D) (re := 0) (im := 0) (s := ByteArray.empty) ⟨by decide, intC_rng D, by decide, by decide, by decide⟩)
          exact ⟨own9, HE.out.1, RGetEnd.good (c := .int (intC D)) (GB.succ (Blk.keep (Blk.keep hb5 x9 (by simp)) HE.out.2.1 HF1.out.2.1)) ((hM5.keep x9 (by simp)).keep HE.out.2.1 HF1.out.2.2.1) hT9⟩
      · rw [if_neg t3] at hG
        have q3 : (D % 8 == 3) = false := by simpa using t3
        by_cases t4 : D % 8 = 4
        · rw [if_pos t4] at hG
          have q4 : (D % 8 == 4) = true := by simpa using t4
          by_cases hlp : (D / 8).toNat < l.length
          · have HV := Lib.hid (show D / 8 < (l.length : Int) by omega)
            rw [if_pos HV.out] at hG
            obtain ⟨y0, hy0⟩ : ∃ y, l.getD (D / 8).toNat 0 = y := ⟨_, rfl⟩
            obtain ⟨sv, hsv⟩ : ∃ y, sig y0 = y := ⟨_, rfl⟩
            rw [hy0, hsv] at hG
            have hs1 : IntKind.i64.wrap y0 = sv := hsv
            have hs2 : wrap64 y0 = sv := by rw [← hs1, IntKind.wrap_i64]; unfold wrap64; rfl
            have hsr : -9223372036854775808 ≤ sv ∧ sv ≤ 9223372036854775807 := by rw [← hs2]; unfold wrap64; omega
            have HSR := Lib.hid hsr
            have HY := Lib.hid (show l[(D / 8).toNat]? = some y0 by rw [getD_mem hlp, hy0])
            have HLP := Lib.hid (show 0 < l.length by omega)
            subst hG
            clear t0 t2 t3 t4 hlp hy0 hsv hsr
            go_enter Try.func95, Try.ntmps95
            go_wp2_with (first
              | (go_at_call 113; refine Calls.mono HD.out ?_; rintro e w9 ⟨rfl, n5, rfl⟩; have xd := (Ext.refl o1 [] W2).drewN n5; have kZ5 := HB.out.1.keep xd (by simp); have x5 := HB.out.2.1.trans (xd.mono (jds := [idg, idv]) (by simp)); have hM5 : RM o1 idv (W2.drewN n5) pm (numV P 0) := HB.out.2.2.1.keep xd (by simp); have hb5 : GB o1 idg (W2.drewN n5) g ph pa pm ((n : Int) + 1) 0 := Blk.keep HB.out.2.2.2.1 xd (by simp); have ha5 : RAP o1 ida (W2.drewN n5) pa L := HB.out.2.2.2.2.1.keep xd (by simp); have hh5 : RH o1 idh (W2.drewN n5) ph most l := HB.out.2.2.2.2.2.keep xd (by simp); obtain ⟨W5, hW5⟩ : ∃ W, W2.drewN n5 = W := ⟨_, rfl⟩; rw [hW5] at kZ5 x5 hM5 hb5 ha5 hh5 ⊢; have b0 := kZ5.cell 0 rfl; have b1 := kZ5.cell 1 rfl; have b2 := kZ5.cell 2 rfl; have b3 := kZ5.cell 3 rfl; have b4 := kZ5.cell 4 rfl; have b5 := kZ5.cell 5 rfl; have bf0 := kZ5.free 0; have bf1 := kZ5.free 1; have bf2 := kZ5.free 2; have bf3 := kZ5.free 3; have bf4 := kZ5.free 4; have bf5 := kZ5.free 5; have gp0 := Blk.cell hb5 0 rfl; have gp1 := Blk.cell hb5 1 rfl; have gp2 := Blk.cell hb5 2 rfl; have gp3 := Blk.cell hb5 3 rfl; have gp4 := Blk.cell hb5 4 rfl; have gpf4 := Blk.free hb5 4; obtain ⟨vh, kh, krr, _⟩ := id hh5; obtain ⟨gh, cph, rfl, _⟩ := krr.form_pos HLP.out; have hc0 := kh.cell 0 rfl; have hcv := krr.cell (D / 8).toNat (u := .int .u64 y0) (by unfold words; rw [List.getElem?_map, HY.out]; rfl); have htn : ((D / 8 : Int)).toNat = (D / 8).toNat := rfl)
              | (go_at_call 132; refine (HVA.out _).mono ?_; rintro e w9 ⟨rfl, hw9⟩; rw [hw9]; clear hw9)
              | (go_at_call 133; refine (HT.out _).mono ?_; rintro e w9 ⟨rfl, hw9⟩; rw [hw9]; clear hw9)
              | (go_at_call 134; refine (rin_true o1 idh ph most (D / 8) l W5 HV.out hh5).mono ?_; rintro e w9 ⟨rfl, hw9⟩; rw [hw9]; clear hw9)
              | (go_at_call 136; refine Calls.mono (r1int_any o1 sv W5) ?_; rintro e w9 ⟨own9, x9, (rfl : e = .returned (.agg #[.int .i64 3, .string ByteArray.empty, .int .i64 sv, .int .u64 0, .int .u64 0, .slice none 0 0]))⟩; have kZ9 := kZ5.keep x9 (by simp); have x59 := x5.trans (x9.mono (jds := [idg, idv]) (by simp)); have b0 := kZ9.cell 0 rfl; have b1 := kZ9.cell 1 rfl; have b2 := kZ9.cell 2 rfl; have b3 := kZ9.cell 3 rfl; have b4 := kZ9.cell 4 rfl; have b5 := kZ9.cell 5 rfl; have bf0 := kZ9.free 0; have bf1 := kZ9.free 1; have bf2 := kZ9.free 2; have bf3 := kZ9.free 3; have bf4 := kZ9.free 4; have bf5 := kZ9.free 5))
            have HE := Lib.hid (store_resI (v0 := .int .i64 3) (v1 := .string ByteArray.empty) (v2 := .int .i64 sv) (v3 := .int .u64 0) (v4 := .int .u64 0) (v5 := .slice none 0 0) x59 (Nat.le_refl _) kZ9)
            (try simp only [Exit.inBlock, Exit.then])
            refine bodyPost_ret (v := .agg #[.int .i64 3, .string ByteArray.empty, .int .i64 sv, .int .u64 0, .int .u64 0, .slice none 0 0]) ?_ rfl ?_
            · rw [results_cell1 rfl]
              have kk := HE.out.2.2
              have z0 := kk.cell 0 rfl
              have z1 := kk.cell 1 rfl
              have z2 := kk.cell 2 rfl
              have z3 := kk.cell 3 rfl
              have z4 := kk.cell 4 rfl
              have z5 := kk.cell 5 rfl
              go_simp
              try rfl
            · have hT9 := TmS.keep HE.out.2.1 HF1.out.2.2.2.1 _ _ (leaf_term (own := own9) (w := w9) (k := 3) (n := sv) (re := 0) (im := 0) (s := ByteArray.empty) ⟨by decide, HSR.out, by decide, by decide, by decide⟩)
              exact ⟨own9, HE.out.1, RGetEnd.good (c := .int sv) (GB.succ (Blk.keep (Blk.keep hb5 x9 (by simp)) HE.out.2.1 HF1.out.2.1)) ((hM5.keep x9 (by simp)).keep HE.out.2.1 HF1.out.2.2.1) hT9⟩
          · have HV := Lib.hid (show ¬ D / 8 < (l.length : Int) by omega)
            rw [if_neg HV.out] at hG
            subst hG
            clear t0 t2 t3 t4 hlp
            go_enter Try.func95, Try.ntmps95
            go_wp2_with (first
              | (go_at_call 113; refine Calls.mono HD.out ?_; rintro e w9 ⟨rfl, n5, rfl⟩; have xd := (Ext.refl o1 [] W2).drewN n5; have kZ5 := HB.out.1.keep xd (by simp); have x5 := HB.out.2.1.trans (xd.mono (jds := [idg, idv]) (by simp)); have hM5 : RM o1 idv (W2.drewN n5) pm (numV P 0) := HB.out.2.2.1.keep xd (by simp); have hb5 : GB o1 idg (W2.drewN n5) g ph pa pm ((n : Int) + 1) 0 := Blk.keep HB.out.2.2.2.1 xd (by simp); have ha5 : RAP o1 ida (W2.drewN n5) pa L := HB.out.2.2.2.2.1.keep xd (by simp); have hh5 : RH o1 idh (W2.drewN n5) ph most l := HB.out.2.2.2.2.2.keep xd (by simp); obtain ⟨W5, hW5⟩ : ∃ W, W2.drewN n5 = W := ⟨_, rfl⟩; rw [hW5] at kZ5 x5 hM5 hb5 ha5 hh5 ⊢; have b0 := kZ5.cell 0 rfl; have b1 := kZ5.cell 1 rfl; have b2 := kZ5.cell 2 rfl; have b3 := kZ5.cell 3 rfl; have b4 := kZ5.cell 4 rfl; have b5 := kZ5.cell 5 rfl; have bf0 := kZ5.free 0; have bf1 := kZ5.free 1; have bf2 := kZ5.free 2; have bf3 := kZ5.free 3; have bf4 := kZ5.free 4; have bf5 := kZ5.free 5; have gp0 := Blk.cell hb5 0 rfl; have gp1 := Blk.cell hb5 1 rfl; have gp2 := Blk.cell hb5 2 rfl; have gp3 := Blk.cell hb5 3 rfl; have gp4 := Blk.cell hb5 4 rfl; have gpf4 := Blk.free hb5 4; have yW6 : Ext o1 o1 [idg] W5 (W5.setCell ⟨g, 4, none⟩ (.int .i64 2)) := (Ext.refl o1 [idg] W5).setCell _ _ (fun _ => (by show o1 g ∈ _; rw [hb5.2]; simp)); have hW6 := Blk.set hb5 4 (.int .i64 2); obtain ⟨W6, hqW6⟩ : ∃ W, W5.setCell ⟨g, 4, none⟩ (.int .i64 2) = W := ⟨_, rfl⟩; rw [hqW6] at yW6 hW6; replace hW6 : GB o1 idg W6 g ph pa pm ((n : Int) + 1) 2 := hW6; have kW6 := kZ5.keep yW6 HF1.out.1; have xW6 := x5.trans (yW6.mono (jds := [idg, idv]) (by simp)); have b0 := kW6.cell 0 rfl; have b1 := kW6.cell 1 rfl; have b2 := kW6.cell 2 rfl; have b3 := kW6.cell 3 rfl; have b4 := kW6.cell 4 rfl; have b5 := kW6.cell 5 rfl; have bf0 := kW6.free 0; have bf1 := kW6.free 1; have bf2 := kW6.free 2; have bf3 := kW6.free 3; have bf4 := kW6.free 4; have bf5 := kW6.free 5)
              | (go_at_call 132; refine (HVA.out _).mono ?_; rintro e w9 ⟨rfl, hw9⟩; rw [hw9]; clear hw9)
              | (go_at_call 133; refine (HT.out _).mono ?_; rintro e w9 ⟨rfl, hw9⟩; rw [hw9]; clear hw9)
              | (go_at_call 134; refine (rin_false o1 idh ph most (D / 8) l W5 (by have := HV.out; omega) hh5).mono ?_; rintro e w9 ⟨rfl, hw9⟩; rw [hw9]; clear hw9))
            have HE := Lib.hid (store_resI (v0 := .int .i64 0) (v1 := .string { data := #[] }) (v2 := .int .i64 0) (v3 := .int .u64 0) (v4 := .int .u64 0) (v5 := .slice none 0 0) xW6 (Nat.le_refl _) kW6)
            (try simp only [Exit.inBlock, Exit.then])
            refine bodyPost_ret (v := .agg #[.int .i64 0, .string ByteArray.empty, .int .i64 0, .int .u64 0, .int .u64 0, .slice none 0 0]) ?_ rfl ?_
            · rw [results_cell1 rfl]
              have kk := HE.out.2.2
              have z0 := kk.cell 0 rfl
              have z1 := kk.cell 1 rfl
              have z2 := kk.cell 2 rfl
              have z3 := kk.cell 3 rfl
              have z4 := kk.cell 4 rfl
              have z5 := kk.cell 5 rfl
              go_simp
              try rfl
            · exact ⟨o1, HE.out.1, RGetEnd.bad (er := 2) (Blk.keep hW6 HE.out.2.1 HF1.out.2.1) (by decide)⟩
        · rw [if_neg t4] at hG
          have q4 : (D % 8 == 4) = false := by simpa using t4
          by_cases t5 : D % 8 = 5
          · rw [if_pos t5] at hG
            have q5 : (D % 8 == 5) = true := by simpa using t5
            have hw1 : IntKind.u64.wrap (D / 8 + 1) = D / 8 + 1 := by have := HR.out.1.2; rw [wrap_u64]; omega
            by_cases hlp : (D / 8).toNat < l.length
            · have HV := Lib.hid (show D / 8 < (l.length : Int) by omega)
              by_cases hl2 : D / 8 + 1 < (l.length : Int)
              · rw [if_pos hl2] at hG
                obtain ⟨y0, hy0⟩ : ∃ y, l.getD (D / 8).toNat 0 = y := ⟨_, rfl⟩
                obtain ⟨y1, hy1⟩ : ∃ y, l.getD ((D / 8).toNat + 1) 0 = y := ⟨_, rfl⟩
                rw [hy0, hy1] at hG
                subst hG
                have hg0 : l[(D / 8).toNat]? = some y0 := by rw [getD_mem hlp, hy0]
                have hg1 : l[(D / 8 + 1).toNat]? = some y1 := by rw [show (D / 8 + 1).toNat = (D / 8).toNat + 1 by omega, getD_mem (by omega), hy1]
                have HY := Lib.hid hg0
                have HY1 := Lib.hid (And.intro hg1 (And.intro hl2 (And.intro (HR.out.2.2.1 _ (List.mem_of_getElem? hg0)) (HR.out.2.2.1 _ (List.mem_of_getElem? hg1)))))
                have HLP := Lib.hid (show 0 < l.length by omega)
                clear t0 t2 t3 t4 t5 hlp hl2 hy0 hy1 hg0 hg1
                go_enter Try.func95, Try.ntmps95
                go_wp2_with (first
                  | (go_at_call 134; have mk2 := mk1; refine (rin_true o1 idh ph most (D / 8 + 1) l W5 HY1.out.2.1 hh5).mono ?_; rintro e w9 ⟨rfl, hw9⟩; rw [hw9]; clear hw9)
                  | (go_at_call 113; refine Calls.mono HD.out ?_; rintro e w9 ⟨rfl, n5, rfl⟩; have xd := (Ext.refl o1 [] W2).drewN n5; have kZ5 := HB.out.1.keep xd (by simp); have x5 := HB.out.2.1.trans (xd.mono (jds := [idg, idv]) (by simp)); have hM5 : RM o1 idv (W2.drewN n5) pm (numV P 0) := HB.out.2.2.1.keep xd (by simp); have hb5 : GB o1 idg (W2.drewN n5) g ph pa pm ((n : Int) + 1) 0 := Blk.keep HB.out.2.2.2.1 xd (by simp); have ha5 : RAP o1 ida (W2.drewN n5) pa L := HB.out.2.2.2.2.1.keep xd (by simp); have hh5 : RH o1 idh (W2.drewN n5) ph most l := HB.out.2.2.2.2.2.keep xd (by simp); obtain ⟨W5, hW5⟩ : ∃ W, W2.drewN n5 = W := ⟨_, rfl⟩; rw [hW5] at kZ5 x5 hM5 hb5 ha5 hh5 ⊢; have b0 := kZ5.cell 0 rfl; have b1 := kZ5.cell 1 rfl; have b2 := kZ5.cell 2 rfl; have b3 := kZ5.cell 3 rfl; have b4 := kZ5.cell 4 rfl; have b5 := kZ5.cell 5 rfl; have bf0 := kZ5.free 0; have bf1 := kZ5.free 1; have bf2 := kZ5.free 2; have bf3 := kZ5.free 3; have bf4 := kZ5.free 4; have bf5 := kZ5.free 5; have gp0 := Blk.cell hb5 0 rfl; have gp1 := Blk.cell hb5 1 rfl; have gp2 := Blk.cell hb5 2 rfl; have gp3 := Blk.cell hb5 3 rfl; have gp4 := Blk.cell hb5 4 rfl; have gpf4 := Blk.free hb5 4; obtain ⟨vh, kh, krr, _⟩ := id hh5; obtain ⟨gh, cph, rfl, _⟩ := krr.form_pos HLP.out; have hc0 := kh.cell 0 rfl; have hcv := krr.cell (D / 8).toNat (u := .int .u64 y0) (by unfold words; rw [List.getElem?_map, HY.out]; rfl); have htn : ((D / 8 : Int)).toNat = (D / 8).toNat := rfl; have hcv1 := krr.cell (D / 8 + 1).toNat (u := .int .u64 y1) (by unfold words; rw [List.getElem?_map, HY1.out.1]; rfl); have HS : W5.drew.cell? ⟨g, 0, none⟩ = some (.pointer (some ⟨ph, 0, none⟩)) ∧ W5.drew.cell? ⟨ph, 0, none⟩ = some (.slice (some ⟨gh, 0, none⟩) l.length cph) ∧ W5.drew.cell? ⟨gh, (D / 8).toNat, none⟩ = some (.int .u64 y0) ∧ W5.drew.cell? ⟨gh, (D / 8 + 1).toNat, none⟩ = some (.int .u64 y1) := ⟨gp0, hc0, hcv, hcv1⟩)
                  | (go_at_call 132; refine (HVA.out _).mono ?_; rintro e w9 ⟨rfl, hw9⟩; rw [hw9]; clear hw9)
                  | (go_at_call 133; refine (HT.out _).mono ?_; rintro e w9 ⟨rfl, hw9⟩; rw [hw9]; clear hw9)
                  | (go_at_call 134; refine (rin_true o1 idh ph most (D / 8) l W5 HV.out hh5).mono ?_; rintro e w9 ⟨rfl, hw9⟩; rw [hw9]; clear hw9; have mk1 := hh5))
                refine wp_calmN ?_
                refine wp_region_till 22 (fun W => W.cell? ⟨g, 0, none⟩ = some (.pointer (some ⟨ph, 0, none⟩)) ∧ W.cell? ⟨ph, 0, none⟩ = some (.slice (some ⟨gh, 0, none⟩) l.length cph) ∧ W.cell? ⟨gh, (D / 8).toNat, none⟩ = some (.int .u64 y0) ∧ W.cell? ⟨gh, (D / 8 + 1).toNat, none⟩ = some (.int .u64 y1)) (by kernel_rfl) ?_
                refine wpTill_free 0 (v := ?_) rfl (by kernel_rfl) (by kernel_rfl) (by kernel_rfl) (by kernel_rfl) (fun _ _ _ h => h) rfl (fun _ => HS) ?_ ?_
                rotate_left 1
                · intro w; go_simp; try with_reducible rfl
                try simp only [Act.put, List.setIfInBounds_toArray, List.set_cons_zero, List.set_cons_succ, List.getElem_toArray, List.getElem_cons_succ, List.getElem_cons_zero]
                refine wpTill_free 1 (v := ?_) rfl (by kernel_rfl) (by kernel_rfl) (by kernel_rfl) (by kernel_rfl) (fun _ _ _ h => h) rfl (fun _ => HS) ?_ ?_
                rotate_left 1
                · intro w; go_simp; try with_reducible rfl
                try simp only [Act.put, List.setIfInBounds_toArray, List.set_cons_zero, List.set_cons_succ, List.getElem_toArray, List.getElem_cons_succ, List.getElem_cons_zero]
                refine wpTill_free 2 (v := ?_) rfl (by kernel_rfl) (by kernel_rfl) (by kernel_rfl) (by kernel_rfl) (fun _ _ _ h => h) rfl (fun _ => HS) ?_ ?_
                rotate_left 1
                · intro w; go_simp; try with_reducible rfl
                try simp only [Act.put, List.setIfInBounds_toArray, List.set_cons_zero, List.set_cons_succ, List.getElem_toArray, List.getElem_cons_succ, List.getElem_cons_zero]
                refine wpTill_chain 3 [21, 9, 8, 6, 5, 4] (v := ?_) rfl (by kernel_rfl) (by kernel_rfl) (by kernel_rfl) (by kernel_rfl) (by kernel_rfl) (by kernel_rfl) (fun _ _ _ h => h) rfl HS ?_ ?_
                rotate_left 1
                · intro w hSw; go_split_ands; go_simp; try with_reducible rfl
                try simp only [Act.put, List.setIfInBounds_toArray, List.set_cons_zero, List.set_cons_succ, List.getElem_toArray, List.getElem_cons_succ, List.getElem_cons_zero]
                refine wpTill_free 4 (v := ?_) rfl (by kernel_rfl) (by kernel_rfl) (by kernel_rfl) (by kernel_rfl) (fun _ _ _ h => h) rfl (fun _ => HS) ?_ ?_
                rotate_left 1
                · intro w; go_simp; try with_reducible rfl
                try simp only [Act.put, List.setIfInBounds_toArray, List.set_cons_zero, List.set_cons_succ, List.getElem_toArray, List.getElem_cons_succ, List.getElem_cons_zero]
                refine wpTill_free 5 (v := ?_) rfl (by kernel_rfl) (by kernel_rfl) (by kernel_rfl) (by kernel_rfl) (fun _ _ _ h => h) rfl (fun _ => HS) ?_ ?_
                rotate_left 1
                · intro w; go_simp; try with_reducible rfl
                try simp only [Act.put, List.setIfInBounds_toArray, List.set_cons_zero, List.set_cons_succ, List.getElem_toArray, List.getElem_cons_succ, List.getElem_cons_zero]
                refine wpTill_chain 6 [21, 9, 8] (v := ?_) rfl (by kernel_rfl) (by kernel_rfl) (by kernel_rfl) (by kernel_rfl) (by kernel_rfl) (by kernel_rfl) (fun _ _ _ h => h) rfl HS ?_ ?_
                rotate_left 1
                · intro w hSw; go_split_ands; go_simp; try with_reducible rfl
                try simp only [Act.put, List.setIfInBounds_toArray, List.set_cons_zero, List.set_cons_succ, List.getElem_toArray, List.getElem_cons_succ, List.getElem_cons_zero]
                refine wpTill_free 7 (v := ?_) rfl (by kernel_rfl) (by kernel_rfl) (by kernel_rfl) (by kernel_rfl) (fun _ _ _ h => h) rfl (fun _ => HS) ?_ ?_
                rotate_left 1
                · intro w; go_simp; try with_reducible rfl
                try simp only [Act.put, List.setIfInBounds_toArray, List.set_cons_zero, List.set_cons_succ, List.getElem_toArray, List.getElem_cons_succ, List.getElem_cons_zero]
                refine wpTill_free 8 (v := ?_) rfl (by kernel_rfl) (by kernel_rfl) (by kernel_rfl) (by kernel_rfl) (fun _ _ _ h => h) rfl (fun _ => HS) ?_ ?_
                rotate_left 1
                · intro w; go_simp; rw [if_pos HV.out]; try with_reducible rfl
                try simp only [Act.put, List.setIfInBounds_toArray, List.set_cons_zero, List.set_cons_succ, List.getElem_toArray, List.getElem_cons_succ, List.getElem_cons_zero]
                refine wpTill_chain 9 [21] (v := ?_) rfl (by kernel_rfl) (by kernel_rfl) (by kernel_rfl) (by kernel_rfl) (by kernel_rfl) (by kernel_rfl) (fun _ _ _ h => h) rfl HS ?_ ?_
                rotate_left 1
                · intro w hSw; go_split_ands; go_simp; try with_reducible rfl
                try simp only [Act.put, List.setIfInBounds_toArray, List.set_cons_zero, List.set_cons_succ, List.getElem_toArray, List.getElem_cons_succ, List.getElem_cons_zero]
                refine wpTill_free 10 (v := ?_) rfl (by kernel_rfl) (by kernel_rfl) (by kernel_rfl) (by kernel_rfl) (fun _ _ _ h => h) rfl (fun _ => HS) ?_ ?_
                rotate_left 1
                · intro w; go_simp; try with_reducible rfl
                try simp only [Act.put, List.setIfInBounds_toArray, List.set_cons_zero, List.set_cons_succ, List.getElem_toArray, List.getElem_cons_succ, List.getElem_cons_zero]
                refine wpTill_free 11 (v := ?_) rfl (by kernel_rfl) (by kernel_rfl) (by kernel_rfl) (by kernel_rfl) (fun _ _ _ h => h) rfl (fun _ => HS) ?_ ?_
                rotate_left 1
                · intro w; go_simp; try with_reducible rfl
                try simp only [Act.put, List.setIfInBounds_toArray, List.set_cons_zero, List.set_cons_succ, List.getElem_toArray, List.getElem_cons_succ, List.getElem_cons_zero]
                refine wpTill_free 12 (v := ?_) rfl (by kernel_rfl) (by kernel_rfl) (by kernel_rfl) (by kernel_rfl) (fun _ _ _ h => h) rfl (fun _ => HS) ?_ ?_
                rotate_left 1
                · intro w; go_simp; try with_reducible rfl
                try simp only [Act.put, List.setIfInBounds_toArray, List.set_cons_zero, List.set_cons_succ, List.getElem_toArray, List.getElem_cons_succ, List.getElem_cons_zero]
                refine wpTill_chain 13 [21, 20, 19, 16, 15, 14] (v := ?_) rfl (by kernel_rfl) (by kernel_rfl) (by kernel_rfl) (by kernel_rfl) (by kernel_rfl) (by kernel_rfl) (fun _ _ _ h => h) rfl HS ?_ ?_
                rotate_left 1
                · intro w hSw; go_split_ands; go_simp; try with_reducible rfl
                try simp only [Act.put, List.setIfInBounds_toArray, List.set_cons_zero, List.set_cons_succ, List.getElem_toArray, List.getElem_cons_succ, List.getElem_cons_zero]
                refine wpTill_free 14 (v := ?_) rfl (by kernel_rfl) (by kernel_rfl) (by kernel_rfl) (by kernel_rfl) (fun _ _ _ h => h) rfl (fun _ => HS) ?_ ?_
                rotate_left 1
                · intro w; go_simp; try with_reducible rfl
                try simp only [Act.put, List.setIfInBounds_toArray, List.set_cons_zero, List.set_cons_succ, List.getElem_toArray, List.getElem_cons_succ, List.getElem_cons_zero]
                refine wpTill_free 15 (v := ?_) rfl (by kernel_rfl) (by kernel_rfl) (by kernel_rfl) (by kernel_rfl) (fun _ _ _ h => h) rfl (fun _ => HS) ?_ ?_
                rotate_left 1
                · intro w; go_simp; try with_reducible rfl
                try simp only [Act.put, List.setIfInBounds_toArray, List.set_cons_zero, List.set_cons_succ, List.getElem_toArray, List.getElem_cons_succ, List.getElem_cons_zero]
                refine wpTill_chain 16 [21, 20, 19] (v := ?_) rfl (by kernel_rfl) (by kernel_rfl) (by kernel_rfl) (by kernel_rfl) (by kernel_rfl) (by kernel_rfl) (fun _ _ _ h => h) rfl HS ?_ ?_
                rotate_left 1
                · intro w hSw; go_split_ands; go_simp; try with_reducible rfl
                try simp only [Act.put, List.setIfInBounds_toArray, List.set_cons_zero, List.set_cons_succ, List.getElem_toArray, List.getElem_cons_succ, List.getElem_cons_zero]
                refine wpTill_free 17 (v := ?_) rfl (by kernel_rfl) (by kernel_rfl) (by kernel_rfl) (by kernel_rfl) (fun _ _ _ h => h) rfl (fun _ => HS) ?_ ?_
                rotate_left 1
                · intro w; go_simp; try with_reducible rfl
                try simp only [Act.put, List.setIfInBounds_toArray, List.set_cons_zero, List.set_cons_succ, List.getElem_toArray, List.getElem_cons_succ, List.getElem_cons_zero]
                refine wpTill_free 18 (v := ?_) rfl (by kernel_rfl) (by kernel_rfl) (by kernel_rfl) (by kernel_rfl) (fun _ _ _ h => h) rfl (fun _ => HS) ?_ ?_
                rotate_left 1
                · intro w; go_simp; try with_reducible rfl
                try simp only [Act.put, List.setIfInBounds_toArray, List.set_cons_zero, List.set_cons_succ, List.getElem_toArray, List.getElem_cons_succ, List.getElem_cons_zero]
                refine wpTill_free 19 (v := ?_) rfl (by kernel_rfl) (by kernel_rfl) (by kernel_rfl) (by kernel_rfl) (fun _ _ _ h => h) rfl (fun _ => HS) ?_ ?_
                rotate_left 1
                · intro w; go_simp; rw [if_pos ⟨by omega, HY1.out.2.1⟩]; try with_reducible rfl
                try simp only [Act.put, List.setIfInBounds_toArray, List.set_cons_zero, List.set_cons_succ, List.getElem_toArray, List.getElem_cons_succ, List.getElem_cons_zero]
                refine wpTill_chain 20 [21] (v := ?_) rfl (by kernel_rfl) (by kernel_rfl) (by kernel_rfl) (by kernel_rfl) (by kernel_rfl) (by kernel_rfl) (fun _ _ _ h => h) rfl HS ?_ ?_
                rotate_left 1
                · intro w hSw; go_split_ands; go_simp; try with_reducible rfl
                try simp only [Act.put, List.setIfInBounds_toArray, List.set_cons_zero, List.set_cons_succ, List.getElem_toArray, List.getElem_cons_succ, List.getElem_cons_zero]
                refine wpTill_free 21 (v := ?_) rfl (by kernel_rfl) (by kernel_rfl) (by kernel_rfl) (by kernel_rfl) (fun _ _ _ h => h) rfl (fun _ => HS) ?_ ?_
                rotate_left 1
                · intro w; go_simp; try with_reducible rfl
                try simp only [Act.put, List.setIfInBounds_toArray, List.set_cons_zero, List.set_cons_succ, List.getElem_toArray, List.getElem_cons_succ, List.getElem_cons_zero]
                refine wpTill_one 22 rfl (by kernel_rfl) rfl (fun K hK => ?_)
                go_simp
                refine hK.out _ _ (Till.gone (by kernel_rfl)) ?_
                clear hK K
                try simp only [Act.put, List.setIfInBounds_toArray, List.set_cons_zero, List.set_cons_succ, List.getElem_toArray, List.getElem_cons_succ, List.getElem_cons_zero]
                refine wpTill_done (by kernel_rfl) ?_ _
                go_wp2_with fail
                have HE := Lib.hid (store_resI (v0 := .int .i64 4) (v1 := .string { data := #[] }) (v2 := .int .i64 0) (v3 := .int .u64 y0) (v4 := .int .u64 y1) (v5 := .slice none 0 0) x5 (Nat.le_refl _) kZ5)
                (try simp only [Exit.inBlock, Exit.then])
                refine bodyPost_ret (v := .agg #[.int .i64 4, .string ByteArray.empty, .int .i64 0, .int .u64 y0, .int .u64 y1, .slice none 0 0]) ?_ rfl ?_
                · rw [results_cell1 rfl]
                  have kk := HE.out.2.2
                  have z0 := kk.cell 0 rfl
                  have z1 := kk.cell 1 rfl
                  have z2 := kk.cell 2 rfl
                  have z3 := kk.cell 3 rfl
                  have z4 := kk.cell 4 rfl
                  have z5 := kk.cell 5 rfl
                  go_simp
                  try rfl
                · exact ⟨o1, HE.out.1.drew, RGetEnd.good (c := .cpx y0 y1) (GB.succ (Blk.keep (Blk.keep hb5 HE.out.2.1 HF1.out.2.1) (Ext.refl o1 [] _).drew (by simp))) ((hM5.keep HE.out.2.1 HF1.out.2.2.1).keep (Ext.refl o1 [] _).drew (by simp)) (leaf_term ⟨by decide, by decide, HY1.out.2.2.1, HY1.out.2.2.2, by decide⟩)⟩
              · rw [if_neg hl2] at hG
                subst hG
                have HV1 := Lib.hid hl2
                clear t0 t2 t3 t4 t5 hlp hl2
                go_enter Try.func95, Try.ntmps95
                go_wp2_with (first
                  | (go_at_call 134; have mk2 := mk1; refine (rin_false o1 idh ph most (D / 8 + 1) l W5 (by have := HV1.out; omega) hh5).mono ?_; rintro e w9 ⟨rfl, hw9⟩; rw [hw9]; clear hw9)
                  | (go_at_call 113; refine Calls.mono HD.out ?_; rintro e w9 ⟨rfl, n5, rfl⟩; have xd := (Ext.refl o1 [] W2).drewN n5; have kZ5 := HB.out.1.keep xd (by simp); have x5 := HB.out.2.1.trans (xd.mono (jds := [idg, idv]) (by simp)); have hM5 : RM o1 idv (W2.drewN n5) pm (numV P 0) := HB.out.2.2.1.keep xd (by simp); have hb5 : GB o1 idg (W2.drewN n5) g ph pa pm ((n : Int) + 1) 0 := Blk.keep HB.out.2.2.2.1 xd (by simp); have ha5 : RAP o1 ida (W2.drewN n5) pa L := HB.out.2.2.2.2.1.keep xd (by simp); have hh5 : RH o1 idh (W2.drewN n5) ph most l := HB.out.2.2.2.2.2.keep xd (by simp); obtain ⟨W5, hW5⟩ : ∃ W, W2.drewN n5 = W := ⟨_, rfl⟩; rw [hW5] at kZ5 x5 hM5 hb5 ha5 hh5 ⊢; have b0 := kZ5.cell 0 rfl; have b1 := kZ5.cell 1 rfl; have b2 := kZ5.cell 2 rfl; have b3 := kZ5.cell 3 rfl; have b4 := kZ5.cell 4 rfl; have b5 := kZ5.cell 5 rfl; have bf0 := kZ5.free 0; have bf1 := kZ5.free 1; have bf2 := kZ5.free 2; have bf3 := kZ5.free 3; have bf4 := kZ5.free 4; have bf5 := kZ5.free 5; have gp0 := Blk.cell hb5 0 rfl; have gp1 := Blk.cell hb5 1 rfl; have gp2 := Blk.cell hb5 2 rfl; have gp3 := Blk.cell hb5 3 rfl; have gp4 := Blk.cell hb5 4 rfl; have gpf4 := Blk.free hb5 4; have yW6 : Ext o1 o1 [idg] W5 (W5.setCell ⟨g, 4, none⟩ (.int .i64 2)) := (Ext.refl o1 [idg] W5).setCell _ _ (fun _ => (by show o1 g ∈ _; rw [hb5.2]; simp)); have hW6 := Blk.set hb5 4 (.int .i64 2); obtain ⟨W6, hqW6⟩ : ∃ W, W5.setCell ⟨g, 4, none⟩ (.int .i64 2) = W := ⟨_, rfl⟩; rw [hqW6] at yW6 hW6; replace hW6 : GB o1 idg W6 g ph pa pm ((n : Int) + 1) 2 := hW6; have kW6 := kZ5.keep yW6 HF1.out.1; have xW6 := x5.trans (yW6.mono (jds := [idg, idv]) (by simp)); have b0 := kW6.cell 0 rfl; have b1 := kW6.cell 1 rfl; have b2 := kW6.cell 2 rfl; have b3 := kW6.cell 3 rfl; have b4 := kW6.cell 4 rfl; have b5 := kW6.cell 5 rfl; have bf0 := kW6.free 0; have bf1 := kW6.free 1; have bf2 := kW6.free 2; have bf3 := kW6.free 3; have bf4 := kW6.free 4; have bf5 := kW6.free 5)
                  | (go_at_call 132; refine (HVA.out _).mono ?_; rintro e w9 ⟨rfl, hw9⟩; rw [hw9]; clear hw9)
                  | (go_at_call 133; refine (HT.out _).mono ?_; rintro e w9 ⟨rfl, hw9⟩; rw [hw9]; clear hw9)
                  | (go_at_call 134; refine (rin_true o1 idh ph most (D / 8) l W5 HV.out hh5).mono ?_; rintro e w9 ⟨rfl, hw9⟩; rw [hw9]; clear hw9; have mk1 := hh5))
                have HE := Lib.hid (store_resI (v0 := .int .i64 0) (v1 := .string { data := #[] }) (v2 := .int .i64 0) (v3 := .int .u64 0) (v4 := .int .u64 0) (v5 := .slice none 0 0) xW6 (Nat.le_refl _) kW6)
                (try simp only [Exit.inBlock, Exit.then])
                refine bodyPost_ret (v := .agg #[.int .i64 0, .string ByteArray.empty, .int .i64 0, .int .u64 0, .int .u64 0, .slice none 0 0]) ?_ rfl ?_
                · rw [results_cell1 rfl]
                  have kk := HE.out.2.2
                  have z0 := kk.cell 0 rfl
                  have z1 := kk.cell 1 rfl
                  have z2 := kk.cell 2 rfl
                  have z3 := kk.cell 3 rfl
                  have z4 := kk.cell 4 rfl
                  have z5 := kk.cell 5 rfl
                  go_simp
                  try rfl
                · exact ⟨o1, HE.out.1, RGetEnd.bad (er := 2) (Blk.keep hW6 HE.out.2.1 HF1.out.2.1) (by decide)⟩
            · have HV := Lib.hid (show ¬ D / 8 < (l.length : Int) by omega)
              rw [if_neg (by have := HV.out; omega)] at hG
              subst hG
              clear t0 t2 t3 t4 t5 hlp
              go_enter Try.func95, Try.ntmps95
              go_wp2_with (first
                | (go_at_call 113; refine Calls.mono HD.out ?_; rintro e w9 ⟨rfl, n5, rfl⟩; have xd := (Ext.refl o1 [] W2).drewN n5; have kZ5 := HB.out.1.keep xd (by simp); have x5 := HB.out.2.1.trans (xd.mono (jds := [idg, idv]) (by simp)); have hM5 : RM o1 idv (W2.drewN n5) pm (numV P 0) := HB.out.2.2.1.keep xd (by simp); have hb5 : GB o1 idg (W2.drewN n5) g ph pa pm ((n : Int) + 1) 0 := Blk.keep HB.out.2.2.2.1 xd (by simp); have ha5 : RAP o1 ida (W2.drewN n5) pa L := HB.out.2.2.2.2.1.keep xd (by simp); have hh5 : RH o1 idh (W2.drewN n5) ph most l := HB.out.2.2.2.2.2.keep xd (by simp); obtain ⟨W5, hW5⟩ : ∃ W, W2.drewN n5 = W := ⟨_, rfl⟩; rw [hW5] at kZ5 x5 hM5 hb5 ha5 hh5 ⊢; have b0 := kZ5.cell 0 rfl; have b1 := kZ5.cell 1 rfl; have b2 := kZ5.cell 2 rfl; have b3 := kZ5.cell 3 rfl; have b4 := kZ5.cell 4 rfl; have b5 := kZ5.cell 5 rfl; have bf0 := kZ5.free 0; have bf1 := kZ5.free 1; have bf2 := kZ5.free 2; have bf3 := kZ5.free 3; have bf4 := kZ5.free 4; have bf5 := kZ5.free 5; have gp0 := Blk.cell hb5 0 rfl; have gp1 := Blk.cell hb5 1 rfl; have gp2 := Blk.cell hb5 2 rfl; have gp3 := Blk.cell hb5 3 rfl; have gp4 := Blk.cell hb5 4 rfl; have gpf4 := Blk.free hb5 4; have yW6 : Ext o1 o1 [idg] W5 (W5.setCell ⟨g, 4, none⟩ (.int .i64 2)) := (Ext.refl o1 [idg] W5).setCell _ _ (fun _ => (by show o1 g ∈ _; rw [hb5.2]; simp)); have hW6 := Blk.set hb5 4 (.int .i64 2); obtain ⟨W6, hqW6⟩ : ∃ W, W5.setCell ⟨g, 4, none⟩ (.int .i64 2) = W := ⟨_, rfl⟩; rw [hqW6] at yW6 hW6; replace hW6 : GB o1 idg W6 g ph pa pm ((n : Int) + 1) 2 := hW6; have kW6 := kZ5.keep yW6 HF1.out.1; have xW6 := x5.trans (yW6.mono (jds := [idg, idv]) (by simp)); have b0 := kW6.cell 0 rfl; have b1 := kW6.cell 1 rfl; have b2 := kW6.cell 2 rfl; have b3 := kW6.cell 3 rfl; have b4 := kW6.cell 4 rfl; have b5 := kW6.cell 5 rfl; have bf0 := kW6.free 0; have bf1 := kW6.free 1; have bf2 := kW6.free 2; have bf3 := kW6.free 3; have bf4 := kW6.free 4; have bf5 := kW6.free 5)
                | (go_at_call 132; refine (HVA.out _).mono ?_; rintro e w9 ⟨rfl, hw9⟩; rw [hw9]; clear hw9)
                | (go_at_call 133; refine (HT.out _).mono ?_; rintro e w9 ⟨rfl, hw9⟩; rw [hw9]; clear hw9)
                | (go_at_call 134; refine (rin_false o1 idh ph most (D / 8) l W5 (by have := HV.out; omega) hh5).mono ?_; rintro e w9 ⟨rfl, hw9⟩; rw [hw9]; clear hw9))
              have HE := Lib.hid (store_resI (v0 := .int .i64 0) (v1 := .string { data := #[] }) (v2 := .int .i64 0) (v3 := .int .u64 0) (v4 := .int .u64 0) (v5 := .slice none 0 0) xW6 (Nat.le_refl _) kW6)
              (try simp only [Exit.inBlock, Exit.then])
              refine bodyPost_ret (v := .agg #[.int .i64 0, .string ByteArray.empty, .int .i64 0, .int .u64 0, .int .u64 0, .slice none 0 0]) ?_ rfl ?_
              · rw [results_cell1 rfl]
                have kk := HE.out.2.2
                have z0 := kk.cell 0 rfl
                have z1 := kk.cell 1 rfl
                have z2 := kk.cell 2 rfl
                have z3 := kk.cell 3 rfl
                have z4 := kk.cell 4 rfl
                have z5 := kk.cell 5 rfl
                go_simp
                try rfl
              · exact ⟨o1, HE.out.1, RGetEnd.bad (er := 2) (Blk.keep hW6 HE.out.2.1 HF1.out.2.1) (by decide)⟩
          · rw [if_neg t5] at hG
            have q5 : (D % 8 == 5) = false := by simpa using t5
            have q1 : (D % 8 == 1) = false := by simpa using HLF.out
            subst hG
            clear t0 t2 t3 t4 t5
            go_enter Try.func95, Try.ntmps95
            go_wp2_with (first
              | (go_at_call 113; refine Calls.mono HD.out ?_; rintro e w9 ⟨rfl, n5, rfl⟩; have xd := (Ext.refl o1 [] W2).drewN n5; have kZ5 := HB.out.1.keep xd (by simp); have x5 := HB.out.2.1.trans (xd.mono (jds := [idg, idv]) (by simp)); have hM5 : RM o1 idv (W2.drewN n5) pm (numV P 0) := HB.out.2.2.1.keep xd (by simp); have hb5 : GB o1 idg (W2.drewN n5) g ph pa pm ((n : Int) + 1) 0 := Blk.keep HB.out.2.2.2.1 xd (by simp); have ha5 : RAP o1 ida (W2.drewN n5) pa L := HB.out.2.2.2.2.1.keep xd (by simp); have hh5 : RH o1 idh (W2.drewN n5) ph most l := HB.out.2.2.2.2.2.keep xd (by simp); obtain ⟨W5, hW5⟩ : ∃ W, W2.drewN n5 = W := ⟨_, rfl⟩; rw [hW5] at kZ5 x5 hM5 hb5 ha5 hh5 ⊢; have b0 := kZ5.cell 0 rfl; have b1 := kZ5.cell 1 rfl; have b2 := kZ5.cell 2 rfl; have b3 := kZ5.cell 3 rfl; have b4 := kZ5.cell 4 rfl; have b5 := kZ5.cell 5 rfl; have bf0 := kZ5.free 0; have bf1 := kZ5.free 1; have bf2 := kZ5.free 2; have bf3 := kZ5.free 3; have bf4 := kZ5.free 4; have bf5 := kZ5.free 5; have gp0 := Blk.cell hb5 0 rfl; have gp1 := Blk.cell hb5 1 rfl; have gp2 := Blk.cell hb5 2 rfl; have gp3 := Blk.cell hb5 3 rfl; have gp4 := Blk.cell hb5 4 rfl; have gpf4 := Blk.free hb5 4; have yW6 : Ext o1 o1 [idg] W5 (W5.setCell ⟨g, 4, none⟩ (.int .i64 2)) := (Ext.refl o1 [idg] W5).setCell _ _ (fun _ => (by show o1 g ∈ _; rw [hb5.2]; simp)); have hW6 := Blk.set hb5 4 (.int .i64 2); obtain ⟨W6, hqW6⟩ : ∃ W, W5.setCell ⟨g, 4, none⟩ (.int .i64 2) = W := ⟨_, rfl⟩; rw [hqW6] at yW6 hW6; replace hW6 : GB o1 idg W6 g ph pa pm ((n : Int) + 1) 2 := hW6; have kW6 := kZ5.keep yW6 HF1.out.1; have xW6 := x5.trans (yW6.mono (jds := [idg, idv]) (by simp)); have b0 := kW6.cell 0 rfl; have b1 := kW6.cell 1 rfl; have b2 := kW6.cell 2 rfl; have b3 := kW6.cell 3 rfl; have b4 := kW6.cell 4 rfl; have b5 := kW6.cell 5 rfl; have bf0 := kW6.free 0; have bf1 := kW6.free 1; have bf2 := kW6.free 2; have bf3 := kW6.free 3; have bf4 := kW6.free 4; have bf5 := kW6.free 5)
              | (go_at_call 132; refine (HVA.out _).mono ?_; rintro e w9 ⟨rfl, hw9⟩; rw [hw9]; clear hw9)
              | (go_at_call 133; refine (HT.out _).mono ?_; rintro e w9 ⟨rfl, hw9⟩; rw [hw9]; clear hw9))
            have HE := Lib.hid (store_resI (v0 := .int .i64 0) (v1 := .string { data := #[] }) (v2 := .int .i64 0) (v3 := .int .u64 0) (v4 := .int .u64 0) (v5 := .slice none 0 0) xW6 (Nat.le_refl _) kW6)
            (try simp only [Exit.inBlock, Exit.then])
            refine bodyPost_ret (v := .agg #[.int .i64 0, .string ByteArray.empty, .int .i64 0, .int .u64 0, .int .u64 0, .slice none 0 0]) ?_ rfl ?_
            · rw [results_cell1 rfl]
              have kk := HE.out.2.2
              have z0 := kk.cell 0 rfl
              have z1 := kk.cell 1 rfl
              have z2 := kk.cell 2 rfl
              have z3 := kk.cell 3 rfl
              have z4 := kk.cell 4 rfl
              have z5 := kk.cell 5 rfl
              go_simp
              try rfl
            · exact ⟨o1, HE.out.1, RGetEnd.bad (er := 2) (Blk.keep hW6 HE.out.2.1 HF1.out.2.1) (by decide)⟩

end Go.Proofs.Ytlmcfclonncgbaa
