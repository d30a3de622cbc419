/- The reader's term (package store): all but compounds. -/
import Derived.Test.YtlmcfclonncgbaaReader2
import Derived.Test.YtlmcfclonncgbaaDeref
namespace Go.Proofs.Ytlmcfclonncgbaa
open Go.RowKit
set_option linter.unusedVariables false
set_option linter.unusedSimpArgs false

/-- What the reader's term answers, and leaves. -/
def GetEnd (own : Nat → Nat) (w : World) (idr idv r ph pa pm : Nat) (g : GR) (e : Ending) : Prop :=
  RB own idr w r ph pa pm g.2.2.1 ∧ RM own idv w pm (numV g.2.2.2 0) ∧ (if g.1 = 0 then ∃ A len cap, e = .returned (.tuple #[valT (un g.2.1) (.slice A len cap), .int .i64 0]) ∧ TmS own w (un g.2.1) (.slice A len cap) else e = .returned (.tuple #[.agg #[.int .i64 0, .string ByteArray.empty, .int .i64 0, .int .u64 0, .int .u64 0, .slice none 0 0], .int .i64 g.1]))
theorem GetEnd.bad {own : Nat → Nat} {w : World} {idr idv r ph pa pm n : Nat} {P : List Int} {er : Int} (hb : RB own idr w r ph pa pm n) (hM : RM own idv w pm (numV P 0)) (he : er ≠ 0) : GetEnd own w idr idv r ph pa pm (Ytlmcfclonncgbaa.bad er n P) (.returned (.tuple #[.agg #[.int .i64 0, .string ByteArray.empty, .int .i64 0, .int .u64 0, .int .u64 0, .slice none 0 0], .int .i64 er])) :=
  ⟨hb, hM, by rw [if_neg (show ¬ (Ytlmcfclonncgbaa.bad er n P).1 = 0 from he)]; rfl⟩
theorem GetEnd.good {own : Nat → Nat} {w : World} {idr idv r ph pa pm n : Nat} {P : List Int} {c : CT} {A : Option Addr} {len cap : Nat} (hb : RB own idr w r ph pa pm n) (hM : RM own idv w pm (numV P 0)) (hT : TmS own w (un c) (.slice A len cap)) : GetEnd own w idr idv r ph pa pm (0, c, n, P) (.returned (.tuple #[valT (un c) (.slice A len cap), .int .i64 0])) :=
  ⟨hb, hM, by rw [if_pos (show ((0 : Int), c, n, P).1 = 0 from rfl)]; exact ⟨A, len, cap, rfl, hT⟩⟩
theorem derefF_rng {l : List Int} {M : Int} (hl : ∀ x ∈ l, 0 ≤ x ∧ x < M) (hM : 0 < M) : ∀ (n : Nat) (c : Int), 0 ≤ c ∧ c < M → 0 ≤ derefF l n c ∧ derefF l n c < M
  | 0, c, h => h
  | n + 1, c, h => by
    unfold derefF
    split
    · split
      · exact h
      · refine derefF_rng hl hM n _ ?_
        by_cases hj : (c / 8).toNat < l.length
        · simp only [List.getD, List.getElem?_eq_getElem hj, Option.getD_some]; exact hl _ (List.getElem_mem hj)
        · simp only [List.getD, List.getElem?_eq_none (Nat.le_of_not_lt hj), Option.getD_none]; omega
    · exact h
theorem intC_rng (c : Int) : -9223372036854775808 ≤ intC c ∧ intC c ≤ 9223372036854775807 := by unfold intC wrap64; omega
/-- The owners. -/
structure IdsG (idr idh ida idm idv : Nat) : Prop where
  r0 : idr ≠ 0
  v0 : idv ≠ 0
  rh : idr ≠ idh
  ra : idr ≠ ida
  rm : idr ≠ idm
  rv : idr ≠ idv
  vh : idv ≠ idh
  va : idv ≠ ida
  vm : idv ≠ idm
set_option maxHeartbeats 1600000 in
set_option maxRecDepth 100000 in
theorem dterm_step (fuel : Nat) (hfu : fuel < 500) (own : Nat → Nat) (idr idh ida idm idv : Nat) (hids : IdsG idr idh ida idm idv) (w : World) (r ph pa pm n : Nat) (most c : Int) (l P : List Int) (L : List ByteArray) (hb : RB own idr w r ph pa pm n) (hh : HP own idh w ph most l) (ha : TabP own ida idm w pa L) (hM : RM own idv w pm (numV P 0)) (hc0 : 0 ≤ c) (hc1 : c < 18446744073709551616) (hl0 : ∀ x ∈ l, 0 ≤ x ∧ x < 18446744073709551616) (hll : l.length ≤ 1048576) (hLL : L.length ≤ 4096) (hn : n ≤ 2000) (hP0 : P.length ≤ 998000 + n)
    (hcomp : ∀ (own : Nat → Nat) (w : World) (n : Nat) (P : List Int) (D : Int), RB own idr w r ph pa pm n → HP own idh w ph most l → TabP own ida idm w pa L → RM own idv w pm (numV P 0) → 0 ≤ D → D < 18446744073709551616 → D % 8 = 1 → n ≤ 2000 → P.length ≤ 998000 + n →
      Calls Try.prog 128 #[.pointer (some ⟨r, 0, none⟩), .int .u64 D, .int .i64 (500 - fuel : Nat)] w (Does own [idr, idv] w fun own' e w' => GetEnd own' w' idr idv r ph pa pm (compG l L (getF l L fuel) D n P) e)) :
    Calls Try.prog 92 #[.pointer (some ⟨r, 0, none⟩), .int .u64 c, .int .i64 (500 - fuel : Nat)] w (Does own [idr, idv] w fun own' e w' => GetEnd own' w' idr idv r ph pa pm (getF l L (fuel + 1) c n P) e) := by
  obtain ⟨d, hd⟩ : ∃ d : Int, ((500 - fuel : Nat) : Int) = d := ⟨_, rfl⟩
  rw [hd]
  simp only [hd] at hcomp
  have hd5 : d ≤ 500 := by omega
  have hP : P.length ≤ 1000000 := by omega
  have HCO := Lib.hid hcomp
  clear hd hcomp
  obtain ⟨F0, hF0, hFF⟩ := own_ne own w.heap.size
  obtain ⟨F, hF⟩ : ∃ F, F0 + idr + idh + ida + idm + idv + 1 = F := ⟨_, rfl⟩
  obtain ⟨x1, kZ, y1⟩ := (Ext.refl own [idr, idv] w).box [.int .i64 0, .string { data := #[] }, .int .i64 0, .int .u64 0, .int .u64 0, .slice none 0 0] 25 F
  replace hb := Blk.keep hb y1 (by simp)
  replace hh := hh.keep y1 (by simp)
  replace ha := ha.keep y1 (by simp) (by simp)
  replace hM := hM.keep y1 (by simp)
  generalize _root_.Go.Proofs.Ytlmcfclonncgbaa.give own w.heap.size F = o1 at *
  obtain ⟨W1, hW1⟩ : ∃ W1, w.alloc (.cells #[.int .i64 0, .string { data := #[] }, .int .i64 0, .int .u64 0, .int .u64 0, .slice none 0 0] 25) = W1 := ⟨_, rfl⟩
  change Blk o1 _ (w.alloc (.cells #[.int .i64 0, .string { data := #[] }, .int .i64 0, .int .u64 0, .int .u64 0, .slice none 0 0] 25)) _ _ _ at kZ
  change Blk o1 _ (w.alloc (.cells #[.int .i64 0, .string { data := #[] }, .int .i64 0, .int .u64 0, .int .u64 0, .slice none 0 0] 25)) _ _ _ at hb
  change HP o1 _ (w.alloc (.cells #[.int .i64 0, .string { data := #[] }, .int .i64 0, .int .u64 0, .int .u64 0, .slice none 0 0] 25)) _ _ _ at hh
  change TabP o1 _ _ (w.alloc (.cells #[.int .i64 0, .string { data := #[] }, .int .i64 0, .int .u64 0, .int .u64 0, .slice none 0 0] 25)) _ _ at ha
  change MV o1 _ (w.alloc (.cells #[.int .i64 0, .string { data := #[] }, .int .i64 0, .int .u64 0, .int .u64 0, .slice none 0 0] 25)) _ _ _ _ _ _ _ at hM
  change Ext own o1 _ w (w.alloc (.cells #[.int .i64 0, .string { data := #[] }, .int .i64 0, .int .u64 0, .int .u64 0, .slice none 0 0] 25)) at x1
  rw [hW1] at kZ hb hh ha hM x1
  have c3 := Blk.cell hb 3 rfl
  have c0 := Blk.cell hb 0 rfl
  have f3 := Blk.free hb 3
  have hFr : F ∉ [idr, idv] := by simp; omega
  have hFr1 : idr ∉ [F] := by simp; omega
  have hFv1 : idv ∉ [F] := by simp; omega
  have h0F : 0 ∉ [F] := by simp; omega
  obtain ⟨G, hG⟩ : ∃ G, getF l L (fuel + 1) c n P = G := ⟨_, rfl⟩
  rw [hG]
  unfold getF at hG
  by_cases h2000 : n = 2000
  · subst h2000
    rw [if_pos rfl] at hG
    subst hG
    have H1 := Lib.hid (And.intro x1 (And.intro hb (And.intro hM (And.intro kZ (And.intro hFr1 hFv1)))))
    have kZ5 := kZ
    have b0 := kZ5.cell 0 rfl; have b1 := kZ5.cell 1 rfl; have b2 := kZ5.cell 2 rfl; have b3 := kZ5.cell 3 rfl; have b4 := kZ5.cell 4 rfl; have b5 := kZ5.cell 5 rfl; have bf0 := kZ5.free 0; have bf1 := kZ5.free 1; have bf2 := kZ5.free 2; have bf3 := kZ5.free 3; have bf4 := kZ5.free 4; have bf5 := kZ5.free 5
    have hce : GetEnd = GetEnd := rfl
    clear hFF hF hF0 hM hh ha hb y1 kZ kZ5 hc0 hc1 hl0 hll hLL hP hce
    go_enter Try.func92, Try.ntmps92
    go_wp2_with fail
    have HE := Lib.hid (store_resI (v0 := .int .i64 0) (v1 := .string { data := #[] }) (v2 := .int .i64 0) (v3 := .int .u64 0) (v4 := .int .u64 0) (v5 := .slice none 0 0) H1.out.1 (Nat.le_refl _) H1.out.2.2.2.1)
    (try simp only [Exit.inBlock, Exit.then])
    refine bodyPost_ret (v := .tuple #[.agg #[.int .i64 0, .string ByteArray.empty, .int .i64 0, .int .u64 0, .int .u64 0, .slice none 0 0], .int .i64 3]) ?_ rfl ?_
    · rw [results_cell_tmp rfl]
      have kk := HE.out.2.2
      have z0 := kk.cell 0 rfl
      have z1 := kk.cell 1 rfl
      have z2 := kk.cell 2 rfl
      have z3 := kk.cell 3 rfl
      have z4 := kk.cell 4 rfl
      have z5 := kk.cell 5 rfl
      go_simp
      try rfl
    · refine ⟨o1, HE.out.1, GetEnd.bad (Blk.keep H1.out.2.1 HE.out.2.1 H1.out.2.2.2.2.1) (H1.out.2.2.1.keep HE.out.2.1 H1.out.2.2.2.2.2) (by decide)⟩
  · rw [if_neg h2000] at hG
    have y2 : Ext o1 o1 [idr] W1 (W1.setCell ⟨r, 3, none⟩ (.int .i64 ((n : Int) + 1))) := (Ext.refl o1 [idr] W1).setCell _ _ (fun _ => by show o1 r ∈ _; rw [hb.2]; simp)
    have hb2 : RB o1 idr (W1.setCell ⟨r, 3, none⟩ (.int .i64 ((n : Int) + 1))) r ph pa pm (n + 1) := by
      unfold RB
      rw [show ((n + 1 : Nat) : Int) = (n : Int) + 1 by push_cast; rfl]
      exact Blk.set hb 3 _
    have hi := hids
    have hRi : ∀ i, idr ≠ i → i ∉ [idr] := fun i h => by simpa using Ne.symm h
    have hh2 := hh.keep y2 (hRi _ hi.rh)
    have ha2 := ha.keep y2 (hRi _ hi.ra) (hRi _ hi.rm)
    have hM2 := hM.keep y2 (hRi _ hi.rv)
    have kZ2 := kZ.keep y2 (by simp; omega)
    have x2 := x1.trans (y2.mono (by simp))
    obtain ⟨W2, hW2⟩ : ∃ W2, W1.setCell ⟨r, 3, none⟩ (.int .i64 ((n : Int) + 1)) = W2 := ⟨_, rfl⟩
    rw [hW2] at hb2 hh2 ha2 hM2 kZ2 x2
    have hder := deref_any o1 idh ph most c l W2 hh2 hc0 (fun x hx => (hl0 x hx).1)
    have hdr := derefF_rng hl0 (by decide) l.length c ⟨hc0, hc1⟩
    change 0 ≤ deref l c ∧ deref l c < 18446744073709551616 at hdr
    obtain ⟨D, hDD⟩ : ∃ D, deref l c = D := ⟨_, rfl⟩
    rw [hDD] at hder hdr hG
    have hT0 : ∀ w, Calls Try.prog 126 #[.int .u64 D] w fun e w' => e = .returned (.int .i64 (D % 8)) ∧ w' = w := fun w => tag_any D w
    have e2 : Blk.cell hb2 0 rfl = Blk.cell hb2 0 rfl := rfl
    have d0 := Blk.cell hb2 0 rfl
    have hwn : IntKind.i64.wrap ((n : Int) + 1) = (n : Int) + 1 := by rw [IntKind.wrap_i64]; omega
    have HP0 := Lib.hid (show n + 1 ≤ 2000 ∧ P.length ≤ 998000 + (n + 1) by omega)
    have hn' : ((n : Int) == 2000) = false := by simp; omega
    have HD := Lib.hid hder
    have HT := Lib.hid hT0
    have HB := Lib.hid (And.intro kZ2 (And.intro x2 (And.intro hM2 (And.intro hb2 (And.intro ha2 hh2)))))
    have HFF := Lib.hid (show ∀ b, b < w.heap.size → own b < F from fun b hb => by have := hFF b hb; omega)
    have hF1 : F + 1 ∉ [idr, idv] ∧ idr ∉ [F + 1] ∧ idv ∉ [F + 1] ∧ F + 1 ≠ idr ∧ F + 1 ≠ idh ∧ F ∉ [F + 1] ∧ 0 ∉ [F + 1] := by simp; omega
    have HF1 := Lib.hid hF1
    clear hF1
    have HR := Lib.hid (And.intro hdr (And.intro hFr (And.intro hFr1 (And.intro hFv1 (And.intro hi (And.intro hl0 (And.intro hll (And.intro hLL (And.intro hP h0F)))))))))
    clear hFF hF hF0 hM hh ha hb y1 kZ hc0 hc1 hl0 hll hLL hP hder hT0 y2 hRi hh2 ha2 hM2 kZ2 x2 hb2 hi hids hFr hFr1 hFv1 hDD e2 x1 hdr
    by_cases t0 : D % 8 = 0
    · rw [if_pos t0] at hG
      have HVF := Lib.hid (show F ∉ [idv] by have := HR.out.2.2.2.1; simp at this ⊢; exact Ne.symm this)
      by_cases hcd : D / 8 < l.length ∧ l.getD (D / 8).toNat 0 = D
      · rw [if_pos hcd] at hG
        obtain ⟨m, hm⟩ : ∃ m, (look (numV (metP P (D / 8)) 0) (D / 8)).getD 0 = m := ⟨_, rfl⟩
        have hmr : 0 ≤ m ∧ m ≤ 1000001 := by
          have h1 := numV_range (metP P (D / 8)) 0 (D / 8) (Int.le_refl _)
          have h2 : (metP P (D / 8)).length ≤ P.length + 1 := by unfold metP; split <;> simp
          have h3 := HR.out.2.2.2.2.2.2.2.2.1
          omega
        rw [hm] at hG
        subst hG
        have HCD := Lib.hid (And.intro hcd (And.intro hm hmr))
        clear hcd hm hmr
        go_enter Try.func92, Try.ntmps92
        go_wp2_with (first
          | (go_at_call 109; refine Calls.mono HD.out ?_; rintro e w9 ⟨rfl, n5, rfl⟩; have xd := (Ext.refl o1 [] W2).drewN n5; have kZ5 := HB.out.1.keep xd (by simp); have x5 := HB.out.2.1.trans (xd.mono (jds := [idr, idv]) (by simp)); have hM5 : RM o1 idv (W2.drewN n5) pm (numV P 0) := HB.out.2.2.1.keep xd (by simp); have hb5 : RB o1 idr (W2.drewN n5) r ph pa pm (n + 1) := Blk.keep HB.out.2.2.2.1 xd (by simp); have ha5 : TabP o1 ida idm (W2.drewN n5) pa L := HB.out.2.2.2.2.1.keep xd (by simp) (by simp); have hh5 : HP o1 idh (W2.drewN n5) ph most l := HB.out.2.2.2.2.2.keep xd (by simp); have b0 := kZ5.cell 0 rfl; have b1 := kZ5.cell 1 rfl; have b2 := kZ5.cell 2 rfl; have b3 := kZ5.cell 3 rfl; have b4 := kZ5.cell 4 rfl; have b5 := kZ5.cell 5 rfl; have bf0 := kZ5.free 0; have bf1 := kZ5.free 1; have bf2 := kZ5.free 2; have bf3 := kZ5.free 3; have bf4 := kZ5.free 4; have bf5 := kZ5.free 5)
          | (go_at_call 126; refine (HT.out _).mono ?_; rintro e w9 ⟨rfl, hw9⟩; rw [hw9]; clear hw9)
          | (go_at_call 127; refine Calls.mono (dvar_any o1 idr idh idv (W2.drewN n5) r ph pa pm (n + 1) most D l P hb5 hh5 hM5 HR.out.1.1 HR.out.1.2 HR.out.2.2.2.2.2.2.1 HR.out.2.2.2.2.2.2.2.2.1 HR.out.2.2.2.2.1.rv (Ne.symm HR.out.2.2.2.2.1.vh)) ?_; rintro e w9 ⟨own9, x9, hq⟩; unfold VarEnd at hq; rw [if_pos HCD.out.1, HCD.out.2.1] at hq; obtain ⟨rfl, hM9⟩ := hq; have kZ9 := kZ5.keep x9 HVF.out; have x59 := x5.trans (x9.mono (jds := [idr, idv]) (by simp)); have hb9 : RB own9 idr w9 r ph pa pm (n + 1) := Blk.keep hb5 x9 (by simpa using HR.out.2.2.2.2.1.rv); have b0 := kZ9.cell 0 rfl; have b1 := kZ9.cell 1 rfl; have b2 := kZ9.cell 2 rfl; have b3 := kZ9.cell 3 rfl; have b4 := kZ9.cell 4 rfl; have b5 := kZ9.cell 5 rfl; have bf0 := kZ9.free 0; have bf1 := kZ9.free 1; have bf2 := kZ9.free 2; have bf3 := kZ9.free 3; have bf4 := kZ9.free 4; have bf5 := kZ9.free 5))
        have HE := Lib.hid (store_resI (v0 := .int .i64 1) (v1 := .string ByteArray.empty) (v2 := .int .i64 m) (v3 := .int .u64 0) (v4 := .int .u64 0) (v5 := .slice none 0 0) x59 (Nat.le_refl _) kZ9)
        (try simp only [Exit.inBlock, Exit.then])
        refine bodyPost_ret (v := .tuple #[.agg #[.int .i64 1, .string ByteArray.empty, .int .i64 m, .int .u64 0, .int .u64 0, .slice none 0 0], .int .i64 0]) ?_ rfl ?_
        · rw [results_cell_tmp rfl]
          have kk := HE.out.2.2
          have z0 := kk.cell 0 rfl
          have z1 := kk.cell 1 rfl
          have z2 := kk.cell 2 rfl
          have z3 := kk.cell 3 rfl
          have z4 := kk.cell 4 rfl
          have z5 := kk.cell 5 rfl
          go_simp
          try rfl
        · have hT9 := TmS.keep HE.out.2.1 HR.out.2.2.2.2.2.2.2.2.2 _ _ (leaf_term (own := own9) (w := w9) (k := 1) (n := m) (re := 0) (im := 0) (s := ByteArray.empty) ⟨by decide, by have := HCD.out.2.2; omega, by decide, by decide, by decide⟩)
          exact ⟨own9, HE.out.1, GetEnd.good (c := .var m) (Blk.keep hb9 HE.out.2.1 HR.out.2.2.1) (hM9.keep HE.out.2.1 HR.out.2.2.2.1) hT9⟩
      · rw [if_neg hcd] at hG
        subst hG
        have HCD := Lib.hid hcd
        clear hcd
        go_enter Try.func92, Try.ntmps92
        go_wp2_with (first
          | (go_at_call 109; refine Calls.mono HD.out ?_; rintro e w9 ⟨rfl, n5, rfl⟩; have xd := (Ext.refl o1 [] W2).drewN n5; have kZ5 := HB.out.1.keep xd (by simp); have x5 := HB.out.2.1.trans (xd.mono (jds := [idr, idv]) (by simp)); have hM5 : RM o1 idv (W2.drewN n5) pm (numV P 0) := HB.out.2.2.1.keep xd (by simp); have hb5 : RB o1 idr (W2.drewN n5) r ph pa pm (n + 1) := Blk.keep HB.out.2.2.2.1 xd (by simp); have ha5 : TabP o1 ida idm (W2.drewN n5) pa L := HB.out.2.2.2.2.1.keep xd (by simp) (by simp); have hh5 : HP o1 idh (W2.drewN n5) ph most l := HB.out.2.2.2.2.2.keep xd (by simp); have b0 := kZ5.cell 0 rfl; have b1 := kZ5.cell 1 rfl; have b2 := kZ5.cell 2 rfl; have b3 := kZ5.cell 3 rfl; have b4 := kZ5.cell 4 rfl; have b5 := kZ5.cell 5 rfl; have bf0 := kZ5.free 0; have bf1 := kZ5.free 1; have bf2 := kZ5.free 2; have bf3 := kZ5.free 3; have bf4 := kZ5.free 4; have bf5 := kZ5.free 5)
          | (go_at_call 126; refine (HT.out _).mono ?_; rintro e w9 ⟨rfl, hw9⟩; rw [hw9]; clear hw9)
          | (go_at_call 127; refine Calls.mono (dvar_any o1 idr idh idv (W2.drewN n5) r ph pa pm (n + 1) most D l P hb5 hh5 hM5 HR.out.1.1 HR.out.1.2 HR.out.2.2.2.2.2.2.1 HR.out.2.2.2.2.2.2.2.2.1 HR.out.2.2.2.2.1.rv (Ne.symm HR.out.2.2.2.2.1.vh)) ?_; rintro e w9 ⟨own9, x9, hq⟩; unfold VarEnd at hq; rw [if_neg HCD.out] at hq; obtain ⟨rfl, hM9⟩ := hq; have kZ9 := kZ5.keep x9 HVF.out; have x59 := x5.trans (x9.mono (jds := [idr, idv]) (by simp)); have hb9 : RB own9 idr w9 r ph pa pm (n + 1) := Blk.keep hb5 x9 (by simpa using HR.out.2.2.2.2.1.rv); have b0 := kZ9.cell 0 rfl; have b1 := kZ9.cell 1 rfl; have b2 := kZ9.cell 2 rfl; have b3 := kZ9.cell 3 rfl; have b4 := kZ9.cell 4 rfl; have b5 := kZ9.cell 5 rfl; have bf0 := kZ9.free 0; have bf1 := kZ9.free 1; have bf2 := kZ9.free 2; have bf3 := kZ9.free 3; have bf4 := kZ9.free 4; have bf5 := kZ9.free 5))
        have HE := Lib.hid (store_resI (v0 := .int .i64 0) (v1 := .string { data := #[] }) (v2 := .int .i64 0) (v3 := .int .u64 0) (v4 := .int .u64 0) (v5 := .slice none 0 0) x59 (Nat.le_refl _) kZ9)
        (try simp only [Exit.inBlock, Exit.then])
        refine bodyPost_ret (v := .tuple #[.agg #[.int .i64 0, .string ByteArray.empty, .int .i64 0, .int .u64 0, .int .u64 0, .slice none 0 0], .int .i64 2]) ?_ rfl ?_
        · rw [results_cell_tmp rfl]
          have kk := HE.out.2.2
          have z0 := kk.cell 0 rfl
          have z1 := kk.cell 1 rfl
          have z2 := kk.cell 2 rfl
          have z3 := kk.cell 3 rfl
          have z4 := kk.cell 4 rfl
          have z5 := kk.cell 5 rfl
          go_simp
          try rfl
        · exact ⟨own9, HE.out.1, GetEnd.bad (Blk.keep hb9 HE.out.2.1 HR.out.2.2.1) (hM9.keep HE.out.2.1 HR.out.2.2.2.1) (by decide)⟩
    · rw [if_neg t0] at hG
      by_cases t1 : D % 8 = 1
      · rw [if_pos t1] at hG
        clear t0
        by_cases hg : G.1 = 0
        · skip
          go_enter Try.func92, Try.ntmps92
          go_wp2_with (first
            | (go_at_call 109; refine Calls.mono HD.out ?_; rintro e w9 ⟨rfl, n5, rfl⟩; have xd := (Ext.refl o1 [] W2).drewN n5; have kZ5 := HB.out.1.keep xd (by simp); have x5 := HB.out.2.1.trans (xd.mono (jds := [idr, idv]) (by simp)); have hM5 : RM o1 idv (W2.drewN n5) pm (numV P 0) := HB.out.2.2.1.keep xd (by simp); have hb5 : RB o1 idr (W2.drewN n5) r ph pa pm (n + 1) := Blk.keep HB.out.2.2.2.1 xd (by simp); have ha5 : TabP o1 ida idm (W2.drewN n5) pa L := HB.out.2.2.2.2.1.keep xd (by simp) (by simp); have hh5 : HP o1 idh (W2.drewN n5) ph most l := HB.out.2.2.2.2.2.keep xd (by simp); have b0 := kZ5.cell 0 rfl; have b1 := kZ5.cell 1 rfl; have b2 := kZ5.cell 2 rfl; have b3 := kZ5.cell 3 rfl; have b4 := kZ5.cell 4 rfl; have b5 := kZ5.cell 5 rfl; have bf0 := kZ5.free 0; have bf1 := kZ5.free 1; have bf2 := kZ5.free 2; have bf3 := kZ5.free 3; have bf4 := kZ5.free 4; have bf5 := kZ5.free 5)
            | (go_at_call 126; refine (HT.out _).mono ?_; rintro e w9 ⟨rfl, hw9⟩; rw [hw9]; clear hw9)
            | (go_at_call 128; refine Calls.mono (HCO.out o1 (W2.drewN n5) (n + 1) P D hb5 hh5 ha5 hM5 HR.out.1.1 HR.out.1.2 t1 HP0.out.1 HP0.out.2) ?_; rintro e w9 ⟨own9, x9, hb9, hM9, hq⟩; rw [hG] at hb9 hM9 hq; rw [if_pos hg] at hq; obtain ⟨A9, l9, cp9, hee, hT9⟩ := hq; obtain rfl : e = .returned (.tuple #[.agg #[.int .i64 (un G.2.1).kind, .string (un G.2.1).name, .int .i64 (un G.2.1).int, .int .u64 (un G.2.1).re, .int .u64 (un G.2.1).im, .slice A9 l9 cp9], .int .i64 0]) := hee; have kZ9 := kZ5.keep x9 HR.out.2.1; have x59 := x5.trans x9; have b0 := kZ9.cell 0 rfl; have b1 := kZ9.cell 1 rfl; have b2 := kZ9.cell 2 rfl; have b3 := kZ9.cell 3 rfl; have b4 := kZ9.cell 4 rfl; have b5 := kZ9.cell 5 rfl; have bf0 := kZ9.free 0; have bf1 := kZ9.free 1; have bf2 := kZ9.free 2; have bf3 := kZ9.free 3; have bf4 := kZ9.free 4; have bf5 := kZ9.free 5))
          have HE := Lib.hid (store_resI (v0 := .int .i64 (un G.2.1).kind) (v1 := .string (un G.2.1).name) (v2 := .int .i64 (un G.2.1).int) (v3 := .int .u64 (un G.2.1).re) (v4 := .int .u64 (un G.2.1).im) (v5 := .slice A9 l9 cp9) x59 (Nat.le_refl _) kZ9)
          (try simp only [Exit.inBlock, Exit.then])
          refine bodyPost_ret (v := .tuple #[.agg #[.int .i64 (un G.2.1).kind, .string (un G.2.1).name, .int .i64 (un G.2.1).int, .int .u64 (un G.2.1).re, .int .u64 (un G.2.1).im, .slice A9 l9 cp9], .int .i64 0]) ?_ rfl ?_
          · rw [results_cell_tmp rfl]
            have kk := HE.out.2.2
            have z0 := kk.cell 0 rfl
            have z1 := kk.cell 1 rfl
            have z2 := kk.cell 2 rfl
            have z3 := kk.cell 3 rfl
            have z4 := kk.cell 4 rfl
            have z5 := kk.cell 5 rfl
            go_simp
            try rfl
          · exact ⟨own9, HE.out.1, Blk.keep hb9 HE.out.2.1 HR.out.2.2.1, hM9.keep HE.out.2.1 HR.out.2.2.2.1, by rw [if_pos hg]; exact ⟨A9, l9, cp9, rfl, TmS.keep HE.out.2.1 HR.out.2.2.2.2.2.2.2.2.2 _ _ hT9⟩⟩
        · have HGE := Lib.hid hg
          go_enter Try.func92, Try.ntmps92
          go_wp2_with (first
            | (go_at_call 109; refine Calls.mono HD.out ?_; rintro e w9 ⟨rfl, n5, rfl⟩; have xd := (Ext.refl o1 [] W2).drewN n5; have kZ5 := HB.out.1.keep xd (by simp); have x5 := HB.out.2.1.trans (xd.mono (jds := [idr, idv]) (by simp)); have hM5 : RM o1 idv (W2.drewN n5) pm (numV P 0) := HB.out.2.2.1.keep xd (by simp); have hb5 : RB o1 idr (W2.drewN n5) r ph pa pm (n + 1) := Blk.keep HB.out.2.2.2.1 xd (by simp); have ha5 : TabP o1 ida idm (W2.drewN n5) pa L := HB.out.2.2.2.2.1.keep xd (by simp) (by simp); have hh5 : HP o1 idh (W2.drewN n5) ph most l := HB.out.2.2.2.2.2.keep xd (by simp); have b0 := kZ5.cell 0 rfl; have b1 := kZ5.cell 1 rfl; have b2 := kZ5.cell 2 rfl; have b3 := kZ5.cell 3 rfl; have b4 := kZ5.cell 4 rfl; have b5 := kZ5.cell 5 rfl; have bf0 := kZ5.free 0; have bf1 := kZ5.free 1; have bf2 := kZ5.free 2; have bf3 := kZ5.free 3; have bf4 := kZ5.free 4; have bf5 := kZ5.free 5)
            | (go_at_call 126; refine (HT.out _).mono ?_; rintro e w9 ⟨rfl, hw9⟩; rw [hw9]; clear hw9)
            | (go_at_call 128; refine Calls.mono (HCO.out o1 (W2.drewN n5) (n + 1) P D hb5 hh5 ha5 hM5 HR.out.1.1 HR.out.1.2 t1 HP0.out.1 HP0.out.2) ?_; rintro e w9 ⟨own9, x9, hb9, hM9, hq⟩; rw [hG] at hb9 hM9 hq; rw [if_neg HGE.out] at hq; obtain rfl := hq; have kZ9 := kZ5.keep x9 HR.out.2.1; have x59 := x5.trans x9; have b0 := kZ9.cell 0 rfl; have b1 := kZ9.cell 1 rfl; have b2 := kZ9.cell 2 rfl; have b3 := kZ9.cell 3 rfl; have b4 := kZ9.cell 4 rfl; have b5 := kZ9.cell 5 rfl; have bf0 := kZ9.free 0; have bf1 := kZ9.free 1; have bf2 := kZ9.free 2; have bf3 := kZ9.free 3; have bf4 := kZ9.free 4; have bf5 := kZ9.free 5))
          have HE := Lib.hid (store_resI (v0 := .int .i64 0) (v1 := .string { data := #[] }) (v2 := .int .i64 0) (v3 := .int .u64 0) (v4 := .int .u64 0) (v5 := .slice none 0 0) x59 (Nat.le_refl _) kZ9)
          (try simp only [Exit.inBlock, Exit.then])
          refine bodyPost_ret (v := .tuple #[.agg #[.int .i64 0, .string ByteArray.empty, .int .i64 0, .int .u64 0, .int .u64 0, .slice none 0 0], .int .i64 G.1]) ?_ rfl ?_
          · rw [results_cell_tmp rfl]
            have kk := HE.out.2.2
            have z0 := kk.cell 0 rfl
            have z1 := kk.cell 1 rfl
            have z2 := kk.cell 2 rfl
            have z3 := kk.cell 3 rfl
            have z4 := kk.cell 4 rfl
            have z5 := kk.cell 5 rfl
            go_simp
            try rfl
          · exact ⟨own9, HE.out.1, Blk.keep hb9 HE.out.2.1 HR.out.2.2.1, hM9.keep HE.out.2.1 HR.out.2.2.2.1, by rw [if_neg HGE.out]⟩
      · rw [if_neg t1] at hG
        by_cases t2 : D % 8 = 2
        · rw [if_pos t2] at hG
          have hv0 : 0 ≤ D / 8 := by have := HR.out.1.1; omega
          have hv1 : D / 8 < 18446744073709551616 := by have := HR.out.1.2; omega
          clear t0 t1
          by_cases hat : D / 8 < L.length
          · rw [if_pos hat] at hG
            have hsz : (L.getD (D / 8).toNat ByteArray.empty).size ≤ maxLen := by
              have hs := HB.out.2.2.2.2.1.names.short (L.getD (D / 8).toNat ByteArray.empty) (by simp only [List.getD, List.getElem?_eq_getElem (show (D / 8).toNat < L.length by omega), Option.getD_some]; exact List.getElem_mem _)
              unfold maxLen; omega
            obtain ⟨sn, hsn⟩ : ∃ s, L.getD (D / 8).toNat ByteArray.empty = s := ⟨_, rfl⟩
            rw [hsn] at hG hsz
            subst hG
            have HAT := Lib.hid (And.intro hat hsn)
            have HSZ := Lib.hid hsz
            clear hat hsn hsz
            go_enter Try.func92, Try.ntmps92
            go_wp2_with (first
              | (go_at_call 109; refine Calls.mono HD.out ?_; rintro e w9 ⟨rfl, n5, rfl⟩; have xd := (Ext.refl o1 [] W2).drewN n5; have kZ5 := HB.out.1.keep xd (by simp); have x5 := HB.out.2.1.trans (xd.mono (jds := [idr, idv]) (by simp)); have hM5 : RM o1 idv (W2.drewN n5) pm (numV P 0) := HB.out.2.2.1.keep xd (by simp); have hb5 : RB o1 idr (W2.drewN n5) r ph pa pm (n + 1) := Blk.keep HB.out.2.2.2.1 xd (by simp); have ha5 : TabP o1 ida idm (W2.drewN n5) pa L := HB.out.2.2.2.2.1.keep xd (by simp) (by simp); have hh5 : HP o1 idh (W2.drewN n5) ph most l := HB.out.2.2.2.2.2.keep xd (by simp); have b0 := kZ5.cell 0 rfl; have b1 := kZ5.cell 1 rfl; have b2 := kZ5.cell 2 rfl; have b3 := kZ5.cell 3 rfl; have b4 := kZ5.cell 4 rfl; have b5 := kZ5.cell 5 rfl; have bf0 := kZ5.free 0; have bf1 := kZ5.free 1; have bf2 := kZ5.free 2; have bf3 := kZ5.free 3; have bf4 := kZ5.free 4; have bf5 := kZ5.free 5)
              | (go_at_call 126; refine (HT.out _).mono ?_; rintro e w9 ⟨rfl, hw9⟩; rw [hw9]; clear hw9)
              | (go_at_call 111; refine (value_any D _).mono ?_; rintro e w9 ⟨rfl, hw9⟩; rw [hw9]; clear hw9)
              | (go_at_call 129; refine Calls.mono (by have z := dname_in o1 idr ida idm (W2.drewN n5) r ph pa pm (n + 1) (D / 8) L hb5 ha5 hv0 HAT.out.1 HR.out.2.2.2.2.2.2.2.1; rw [HAT.out.2] at z; exact z) ?_; rintro e w9 ⟨rfl, n6, rfl⟩; have xe := (Ext.refl o1 [] W2).drewN (n5 + n6); have kZ6 : Blk o1 F (W2.drewN (n5 + n6)) w.heap.size [.int .i64 0, .string { data := #[] }, .int .i64 0, .int .u64 0, .int .u64 0, .slice none 0 0] 25 := HB.out.1.keep xe (by simp); have x6 : Ext own o1 [idr, idv] w (W2.drewN (n5 + n6)) := HB.out.2.1.trans (xe.mono (by simp)); have hM6 : RM o1 idv (W2.drewN (n5 + n6)) pm (numV P 0) := HB.out.2.2.1.keep xe (by simp); have hb6 : RB o1 idr (W2.drewN (n5 + n6)) r ph pa pm (n + 1) := Blk.keep HB.out.2.2.2.1 xe (by simp); have b0 := kZ6.cell 0 rfl; have b1 := kZ6.cell 1 rfl; have b2 := kZ6.cell 2 rfl; have b3 := kZ6.cell 3 rfl; have b4 := kZ6.cell 4 rfl; have b5 := kZ6.cell 5 rfl; have bf0 := kZ6.free 0; have bf1 := kZ6.free 1; have bf2 := kZ6.free 2; have bf3 := kZ6.free 3; have bf4 := kZ6.free 4; have bf5 := kZ6.free 5))
            have HE := Lib.hid (store_resI (v0 := .int .i64 2) (v1 := .string sn) (v2 := .int .i64 0) (v3 := .int .u64 0) (v4 := .int .u64 0) (v5 := .slice none 0 0) x6 (Nat.le_refl _) kZ6)
            (try simp only [Exit.inBlock, Exit.then])
            refine bodyPost_ret (v := .tuple #[.agg #[.int .i64 2, .string sn, .int .i64 0, .int .u64 0, .int .u64 0, .slice none 0 0], .int .i64 0]) ?_ rfl ?_
            · rw [results_cell_tmp rfl]
              have kk := HE.out.2.2
              have z0 := kk.cell 0 rfl
              have z1 := kk.cell 1 rfl
              have z2 := kk.cell 2 rfl
              have z3 := kk.cell 3 rfl
              have z4 := kk.cell 4 rfl
              have z5 := kk.cell 5 rfl
              go_simp
              try rfl
            · have hT9 := TmS.keep HE.out.2.1 HR.out.2.2.2.2.2.2.2.2.2 _ _ (leaf_term (own := o1) (w := W2.drewN (n5 + n6)) (k := 2) (n := 0) (re := 0) (im := 0) (s := sn) ⟨by decide, by decide, by decide, by decide, HSZ.out⟩)
              exact ⟨o1, HE.out.1, GetEnd.good (c := .atom sn) (Blk.keep hb6 HE.out.2.1 HR.out.2.2.1) (hM6.keep HE.out.2.1 HR.out.2.2.2.1) hT9⟩
          · rw [if_neg hat] at hG
            subst hG
            have HAT := Lib.hid (show (L.length : Int) ≤ D / 8 by omega)
            clear hat
            go_enter Try.func92, Try.ntmps92
            go_wp2_with (first
              | (go_at_call 109; refine Calls.mono HD.out ?_; rintro e w9 ⟨rfl, n5, rfl⟩; have xd := (Ext.refl o1 [] W2).drewN n5; have kZ5 := HB.out.1.keep xd (by simp); have x5 := HB.out.2.1.trans (xd.mono (jds := [idr, idv]) (by simp)); have hM5 : RM o1 idv (W2.drewN n5) pm (numV P 0) := HB.out.2.2.1.keep xd (by simp); have hb5 : RB o1 idr (W2.drewN n5) r ph pa pm (n + 1) := Blk.keep HB.out.2.2.2.1 xd (by simp); have ha5 : TabP o1 ida idm (W2.drewN n5) pa L := HB.out.2.2.2.2.1.keep xd (by simp) (by simp); have hh5 : HP o1 idh (W2.drewN n5) ph most l := HB.out.2.2.2.2.2.keep xd (by simp); have b0 := kZ5.cell 0 rfl; have b1 := kZ5.cell 1 rfl; have b2 := kZ5.cell 2 rfl; have b3 := kZ5.cell 3 rfl; have b4 := kZ5.cell 4 rfl; have b5 := kZ5.cell 5 rfl; have bf0 := kZ5.free 0; have bf1 := kZ5.free 1; have bf2 := kZ5.free 2; have bf3 := kZ5.free 3; have bf4 := kZ5.free 4; have bf5 := kZ5.free 5)
              | (go_at_call 126; refine (HT.out _).mono ?_; rintro e w9 ⟨rfl, hw9⟩; rw [hw9]; clear hw9)
              | (go_at_call 111; refine (value_any D _).mono ?_; rintro e w9 ⟨rfl, hw9⟩; rw [hw9]; clear hw9)
              | (go_at_call 129; refine Calls.mono (dname_out o1 idr ida idm (W2.drewN n5) r ph pa pm (n + 1) (D / 8) L hb5 ha5 HAT.out hv1 HR.out.2.2.2.2.2.2.2.1) ?_; rintro e w9 ⟨rfl, n6, rfl⟩; have xe := (Ext.refl o1 [] W2).drewN (n5 + n6); have kZ6 : Blk o1 F (W2.drewN (n5 + n6)) w.heap.size [.int .i64 0, .string { data := #[] }, .int .i64 0, .int .u64 0, .int .u64 0, .slice none 0 0] 25 := HB.out.1.keep xe (by simp); have x6 : Ext own o1 [idr, idv] w (W2.drewN (n5 + n6)) := HB.out.2.1.trans (xe.mono (by simp)); have hM6 : RM o1 idv (W2.drewN (n5 + n6)) pm (numV P 0) := HB.out.2.2.1.keep xe (by simp); have hb6 : RB o1 idr (W2.drewN (n5 + n6)) r ph pa pm (n + 1) := Blk.keep HB.out.2.2.2.1 xe (by simp); have b0 := kZ6.cell 0 rfl; have b1 := kZ6.cell 1 rfl; have b2 := kZ6.cell 2 rfl; have b3 := kZ6.cell 3 rfl; have b4 := kZ6.cell 4 rfl; have b5 := kZ6.cell 5 rfl; have bf0 := kZ6.free 0; have bf1 := kZ6.free 1; have bf2 := kZ6.free 2; have bf3 := kZ6.free 3; have bf4 := kZ6.free 4; have bf5 := kZ6.free 5))
            have HE := Lib.hid (store_resI (v0 := .int .i64 0) (v1 := .string { data := #[] }) (v2 := .int .i64 0) (v3 := .int .u64 0) (v4 := .int .u64 0) (v5 := .slice none 0 0) x6 (Nat.le_refl _) kZ6)
            (try simp only [Exit.inBlock, Exit.then])
            refine bodyPost_ret (v := .tuple #[.agg #[.int .i64 0, .string ByteArray.empty, .int .i64 0, .int .u64 0, .int .u64 0, .slice none 0 0], .int .i64 2]) ?_ rfl ?_
            · rw [results_cell_tmp rfl]
              have kk := HE.out.2.2
              have z0 := kk.cell 0 rfl
              have z1 := kk.cell 1 rfl
              have z2 := kk.cell 2 rfl
              have z3 := kk.cell 3 rfl
              have z4 := kk.cell 4 rfl
              have z5 := kk.cell 5 rfl
              go_simp
              try rfl
            · exact ⟨o1, HE.out.1, GetEnd.bad (Blk.keep hb6 HE.out.2.1 HR.out.2.2.1) (hM6.keep HE.out.2.1 HR.out.2.2.2.1) (by decide)⟩
        · rw [if_neg t2] at hG
          by_cases t3 : D % 8 = 3
          · rw [if_pos t3] at hG
            subst hG
            clear t0 t1 t2
            go_enter Try.func92, Try.ntmps92
            go_wp2_with (first
              | (go_at_call 109; refine Calls.mono HD.out ?_; rintro e w9 ⟨rfl, n5, rfl⟩; have xd := (Ext.refl o1 [] W2).drewN n5; have kZ5 := HB.out.1.keep xd (by simp); have x5 := HB.out.2.1.trans (xd.mono (jds := [idr, idv]) (by simp)); have hM5 : RM o1 idv (W2.drewN n5) pm (numV P 0) := HB.out.2.2.1.keep xd (by simp); have hb5 : RB o1 idr (W2.drewN n5) r ph pa pm (n + 1) := Blk.keep HB.out.2.2.2.1 xd (by simp); have ha5 : TabP o1 ida idm (W2.drewN n5) pa L := HB.out.2.2.2.2.1.keep xd (by simp) (by simp); have hh5 : HP o1 idh (W2.drewN n5) ph most l := HB.out.2.2.2.2.2.keep xd (by simp); have b0 := kZ5.cell 0 rfl; have b1 := kZ5.cell 1 rfl; have b2 := kZ5.cell 2 rfl; have b3 := kZ5.cell 3 rfl; have b4 := kZ5.cell 4 rfl; have b5 := kZ5.cell 5 rfl; have bf0 := kZ5.free 0; have bf1 := kZ5.free 1; have bf2 := kZ5.free 2; have bf3 := kZ5.free 3; have bf4 := kZ5.free 4; have bf5 := kZ5.free 5)
              | (go_at_call 126; refine (HT.out _).mono ?_; rintro e w9 ⟨rfl, hw9⟩; rw [hw9]; clear hw9)
              | (go_at_call 130; refine (int_any D _).mono ?_; rintro e w9 ⟨rfl, hw9⟩; rw [hw9]; clear hw9))
            have HE := Lib.hid (store_resI (v0 := .int .i64 3) (v1 := .string { data := #[] }) (v2 := .int .i64 (intC D)) (v3 := .int .u64 0) (v4 := .int .u64 0) (v5 := .slice none 0 0) x5 (Nat.le_refl _) kZ5)
            (try simp only [Exit.inBlock, Exit.then])
            refine bodyPost_ret (v := .tuple #[.agg #[.int .i64 3, .string ByteArray.empty, .int .i64 (intC D), .int .u64 0, .int .u64 0, .slice none 0 0], .int .i64 0]) ?_ rfl ?_
            · rw [results_cell_tmp rfl]
              have kk := HE.out.2.2
              have z0 := kk.cell 0 rfl
              have z1 := kk.cell 1 rfl
              have z2 := kk.cell 2 rfl
              have z3 := kk.cell 3 rfl
              have z4 := kk.cell 4 rfl
              have z5 := kk.cell 5 rfl
              go_simp
              try rfl
            · have hT9 := TmS.keep HE.out.2.1 HR.out.2.2.2.2.2.2.2.2.2 _ _ (leaf_term (own := o1) (w := W2.drewN n5) (k := 3) (n := intC D) (re := 0) (im := 0) (s := ByteArray.empty) ⟨by decide, intC_rng D, by decide, by decide, by decide⟩)
              exact ⟨o1, HE.out.1, GetEnd.good (c := .int (intC D)) (Blk.keep hb5 HE.out.2.1 HR.out.2.2.1) (hM5.keep HE.out.2.1 HR.out.2.2.2.1) hT9⟩
          · rw [if_neg t3] at hG
            by_cases t4 : D % 8 = 4
            · rw [if_pos t4] at hG
              clear t0 t1 t2 t3
              have hv0 : 0 ≤ D / 8 := by have := HR.out.1.1; omega
              by_cases hcd : D / 8 < l.length
              · rw [if_pos hcd] at hG
                obtain ⟨y0, hy0⟩ : ∃ y, l.getD ((D / 8).toNat + 0) 0 = y := ⟨_, rfl⟩
                obtain ⟨sv, hsv⟩ : ∃ v, sig (l.getD (D / 8).toNat 0) = v := ⟨_, rfl⟩
                rw [hsv] at hG
                have hs1 : IntKind.i64.wrap y0 = sv := by rw [← hsv, ← hy0]; rfl
                have hs2 : wrap64 y0 = sv := by rw [← hs1, IntKind.wrap_i64]; unfold wrap64; rfl
                have hsr : -9223372036854775808 ≤ sv ∧ sv ≤ 9223372036854775807 := by rw [← hs2]; unfold wrap64; omega
                subst hG
                have HCD := Lib.hid (And.intro (show (D / 8).toNat + 1 ≤ l.length by omega) (And.intro hy0 hsr))
                clear hcd hy0 hsv hsr hv0
                go_enter Try.func92, Try.ntmps92
                go_wp2_with (first
                  | (go_at_call 109; refine Calls.mono HD.out ?_; rintro e w9 ⟨rfl, n5, rfl⟩; have xd := (Ext.refl o1 [] W2).drewN n5; have kZ5 := HB.out.1.keep xd (by simp); have x5 := HB.out.2.1.trans (xd.mono (jds := [idr, idv]) (by simp)); have hM5 : RM o1 idv (W2.drewN n5) pm (numV P 0) := HB.out.2.2.1.keep xd (by simp); have hb5 : RB o1 idr (W2.drewN n5) r ph pa pm (n + 1) := Blk.keep HB.out.2.2.2.1 xd (by simp); have ha5 : TabP o1 ida idm (W2.drewN n5) pa L := HB.out.2.2.2.2.1.keep xd (by simp) (by simp); have hh5 : HP o1 idh (W2.drewN n5) ph most l := HB.out.2.2.2.2.2.keep xd (by simp); have b0 := kZ5.cell 0 rfl; have b1 := kZ5.cell 1 rfl; have b2 := kZ5.cell 2 rfl; have b3 := kZ5.cell 3 rfl; have b4 := kZ5.cell 4 rfl; have b5 := kZ5.cell 5 rfl; have bf0 := kZ5.free 0; have bf1 := kZ5.free 1; have bf2 := kZ5.free 2; have bf3 := kZ5.free 3; have bf4 := kZ5.free 4; have bf5 := kZ5.free 5)
                  | (go_at_call 126; refine (HT.out _).mono ?_; rintro e w9 ⟨rfl, hw9⟩; rw [hw9]; clear hw9)
                  | (go_at_call 131; refine Calls.mono (dwords_any o1 idr idh (F + 1) (W2.drewN n5) r ph pa pm (n + 1) 1 most D l hb5 hh5 HR.out.1.1 HR.out.1.2 (by decide) (by decide) HR.out.2.2.2.2.2.2.1 HF1.out.2.2.2.1 HF1.out.2.2.2.2.1) ?_; rintro e w9 ⟨own9, x9, hq⟩; unfold WordsEnd at hq; rw [if_pos HCD.out.1] at hq; obtain ⟨sl, rfl, hr9⟩ := hq; obtain ⟨g, cp, rfl, _⟩ := hr9.form_pos (by decide); have q0 : w9.cell? ⟨g, 0, none⟩ = some (.int .u64 y0) := hr9.cell 0 (by rw [List.getElem?_map, cellsAt_get (by decide) HCD.out.1, HCD.out.2.1]; rfl); have kZ9 := kZ5.keep x9 HF1.out.2.2.2.2.2.1; have x59 : Ext own own9 [idr, idv] w w9 := (by have z := (x5.mono (jds := [idr, idv, F + 1]) (by intro i hi; simp only [List.mem_cons, List.not_mem_nil, or_false] at hi ⊢; omega)).trans (x9.mono (jds := [idr, idv, F + 1]) (by simp)); exact ⟨z.os, z.tape, z.output, z.size, z.own, fun b hb hn => z.block b hb (by have := HFF.out b hb; simp at hn ⊢; omega)⟩); have hb9 : RB own9 idr w9 r ph pa pm (n + 1) := Blk.keep hb5 x9 HF1.out.2.1; have hM9 : RM own9 idv w9 pm (numV P 0) := hM5.keep x9 HF1.out.2.2.1; have b0 := kZ9.cell 0 rfl; have b1 := kZ9.cell 1 rfl; have b2 := kZ9.cell 2 rfl; have b3 := kZ9.cell 3 rfl; have b4 := kZ9.cell 4 rfl; have b5 := kZ9.cell 5 rfl; have bf0 := kZ9.free 0; have bf1 := kZ9.free 1; have bf2 := kZ9.free 2; have bf3 := kZ9.free 3; have bf4 := kZ9.free 4; have bf5 := kZ9.free 5))
                have HE := Lib.hid (store_resI (v0 := .int .i64 3) (v1 := .string { data := #[] }) (v2 := .int .i64 sv) (v3 := .int .u64 0) (v4 := .int .u64 0) (v5 := .slice none 0 0) x59 (Nat.le_refl _) kZ9)
                (try simp only [Exit.inBlock, Exit.then])
                refine bodyPost_ret (v := .tuple #[.agg #[.int .i64 3, .string ByteArray.empty, .int .i64 sv, .int .u64 0, .int .u64 0, .slice none 0 0], .int .i64 0]) ?_ rfl ?_
                · rw [results_cell_tmp rfl]
                  have kk := HE.out.2.2
                  have z0 := kk.cell 0 rfl
                  have z1 := kk.cell 1 rfl
                  have z2 := kk.cell 2 rfl
                  have z3 := kk.cell 3 rfl
                  have z4 := kk.cell 4 rfl
                  have z5 := kk.cell 5 rfl
                  go_simp
                  try rfl
                · have hT9 := TmS.keep HE.out.2.1 HR.out.2.2.2.2.2.2.2.2.2 _ _ (leaf_term (own := own9) (w := w9) (k := 3) (n := sv) (re := 0) (im := 0) (s := ByteArray.empty) ⟨by decide, HCD.out.2.2, by decide, by decide, by decide⟩)
                  exact ⟨own9, HE.out.1, GetEnd.good (c := .int sv) (Blk.keep hb9 HE.out.2.1 HR.out.2.2.1) (hM9.keep HE.out.2.1 HR.out.2.2.2.1) hT9⟩
              · rw [if_neg hcd] at hG
                subst hG
                have HCD := Lib.hid (show ¬ ((D / 8).toNat + 1 ≤ l.length) by omega)
                clear hcd hv0
                go_enter Try.func92, Try.ntmps92
                go_wp2_with (first
                  | (go_at_call 109; refine Calls.mono HD.out ?_; rintro e w9 ⟨rfl, n5, rfl⟩; have xd := (Ext.refl o1 [] W2).drewN n5; have kZ5 := HB.out.1.keep xd (by simp); have x5 := HB.out.2.1.trans (xd.mono (jds := [idr, idv]) (by simp)); have hM5 : RM o1 idv (W2.drewN n5) pm (numV P 0) := HB.out.2.2.1.keep xd (by simp); have hb5 : RB o1 idr (W2.drewN n5) r ph pa pm (n + 1) := Blk.keep HB.out.2.2.2.1 xd (by simp); have ha5 : TabP o1 ida idm (W2.drewN n5) pa L := HB.out.2.2.2.2.1.keep xd (by simp) (by simp); have hh5 : HP o1 idh (W2.drewN n5) ph most l := HB.out.2.2.2.2.2.keep xd (by simp); have b0 := kZ5.cell 0 rfl; have b1 := kZ5.cell 1 rfl; have b2 := kZ5.cell 2 rfl; have b3 := kZ5.cell 3 rfl; have b4 := kZ5.cell 4 rfl; have b5 := kZ5.cell 5 rfl; have bf0 := kZ5.free 0; have bf1 := kZ5.free 1; have bf2 := kZ5.free 2; have bf3 := kZ5.free 3; have bf4 := kZ5.free 4; have bf5 := kZ5.free 5)
                  | (go_at_call 126; refine (HT.out _).mono ?_; rintro e w9 ⟨rfl, hw9⟩; rw [hw9]; clear hw9)
                  | (go_at_call 131; refine Calls.mono (dwords_any o1 idr idh (F + 1) (W2.drewN n5) r ph pa pm (n + 1) 1 most D l hb5 hh5 HR.out.1.1 HR.out.1.2 (by decide) (by decide) HR.out.2.2.2.2.2.2.1 HF1.out.2.2.2.1 HF1.out.2.2.2.2.1) ?_; rintro e w9 ⟨own9, x9, hq⟩; unfold WordsEnd at hq; rw [if_neg HCD.out] at hq; obtain rfl := hq; have kZ9 := kZ5.keep x9 HF1.out.2.2.2.2.2.1; have x59 : Ext own own9 [idr, idv] w w9 := (by have z := (x5.mono (jds := [idr, idv, F + 1]) (by intro i hi; simp only [List.mem_cons, List.not_mem_nil, or_false] at hi ⊢; omega)).trans (x9.mono (jds := [idr, idv, F + 1]) (by simp)); exact ⟨z.os, z.tape, z.output, z.size, z.own, fun b hb hn => z.block b hb (by have := HFF.out b hb; simp at hn ⊢; omega)⟩); have hb9 : RB own9 idr w9 r ph pa pm (n + 1) := Blk.keep hb5 x9 HF1.out.2.1; have hM9 : RM own9 idv w9 pm (numV P 0) := hM5.keep x9 HF1.out.2.2.1; have b0 := kZ9.cell 0 rfl; have b1 := kZ9.cell 1 rfl; have b2 := kZ9.cell 2 rfl; have b3 := kZ9.cell 3 rfl; have b4 := kZ9.cell 4 rfl; have b5 := kZ9.cell 5 rfl; have bf0 := kZ9.free 0; have bf1 := kZ9.free 1; have bf2 := kZ9.free 2; have bf3 := kZ9.free 3; have bf4 := kZ9.free 4; have bf5 := kZ9.free 5))
                have HE := Lib.hid (store_resI (v0 := .int .i64 0) (v1 := .string { data := #[] }) (v2 := .int .i64 0) (v3 := .int .u64 0) (v4 := .int .u64 0) (v5 := .slice none 0 0) x59 (Nat.le_refl _) kZ9)
                (try simp only [Exit.inBlock, Exit.then])
                refine bodyPost_ret (v := .tuple #[.agg #[.int .i64 0, .string ByteArray.empty, .int .i64 0, .int .u64 0, .int .u64 0, .slice none 0 0], .int .i64 2]) ?_ rfl ?_
                · rw [results_cell_tmp rfl]
                  have kk := HE.out.2.2
                  have z0 := kk.cell 0 rfl
                  have z1 := kk.cell 1 rfl
                  have z2 := kk.cell 2 rfl
                  have z3 := kk.cell 3 rfl
                  have z4 := kk.cell 4 rfl
                  have z5 := kk.cell 5 rfl
                  go_simp
                  try rfl
                · exact ⟨own9, HE.out.1, GetEnd.bad (Blk.keep hb9 HE.out.2.1 HR.out.2.2.1) (hM9.keep HE.out.2.1 HR.out.2.2.2.1) (by decide)⟩
            · rw [if_neg t4] at hG
              by_cases t5 : D % 8 = 5
              · rw [if_pos t5] at hG
                clear t0 t1 t2 t3 t4
                have hv0 : 0 ≤ D / 8 := by have := HR.out.1.1; omega
                by_cases hcd : D / 8 + 1 < l.length
                · rw [if_pos hcd] at hG
                  obtain ⟨y0, hy0⟩ : ∃ y, l.getD ((D / 8).toNat + 0) 0 = y := ⟨_, rfl⟩
                  obtain ⟨y1, hy1⟩ : ∃ y, l.getD ((D / 8).toNat + 1) 0 = y := ⟨_, rfl⟩
                  have hmem : ∀ q, q < l.length → 0 ≤ l.getD q 0 ∧ l.getD q 0 < 18446744073709551616 := fun q hq => by
                    simp only [List.getD, List.getElem?_eq_getElem hq, Option.getD_some]
                    exact HR.out.2.2.2.2.2.1 _ (List.getElem_mem hq)
                  have r0 := hmem ((D / 8).toNat + 0) (by omega)
                  have r1 := hmem ((D / 8).toNat + 1) (by omega)
                  rw [hy0] at r0
                  rw [hy1] at r1 hG
                  rw [show l.getD (D / 8).toNat 0 = y0 from hy0] at hG
                  subst hG
                  have HCD := Lib.hid (And.intro (show (D / 8).toNat + 2 ≤ l.length by omega) (And.intro hy0 (And.intro hy1 (And.intro r0 r1))))
                  clear hcd hy0 hy1 r0 r1 hmem hv0
                  go_enter Try.func92, Try.ntmps92
                  go_wp2_with (first
                    | (go_at_call 109; refine Calls.mono HD.out ?_; rintro e w9 ⟨rfl, n5, rfl⟩; have xd := (Ext.refl o1 [] W2).drewN n5; have kZ5 := HB.out.1.keep xd (by simp); have x5 := HB.out.2.1.trans (xd.mono (jds := [idr, idv]) (by simp)); have hM5 : RM o1 idv (W2.drewN n5) pm (numV P 0) := HB.out.2.2.1.keep xd (by simp); have hb5 : RB o1 idr (W2.drewN n5) r ph pa pm (n + 1) := Blk.keep HB.out.2.2.2.1 xd (by simp); have ha5 : TabP o1 ida idm (W2.drewN n5) pa L := HB.out.2.2.2.2.1.keep xd (by simp) (by simp); have hh5 : HP o1 idh (W2.drewN n5) ph most l := HB.out.2.2.2.2.2.keep xd (by simp); have b0 := kZ5.cell 0 rfl; have b1 := kZ5.cell 1 rfl; have b2 := kZ5.cell 2 rfl; have b3 := kZ5.cell 3 rfl; have b4 := kZ5.cell 4 rfl; have b5 := kZ5.cell 5 rfl; have bf0 := kZ5.free 0; have bf1 := kZ5.free 1; have bf2 := kZ5.free 2; have bf3 := kZ5.free 3; have bf4 := kZ5.free 4; have bf5 := kZ5.free 5)
                    | (go_at_call 126; refine (HT.out _).mono ?_; rintro e w9 ⟨rfl, hw9⟩; rw [hw9]; clear hw9)
                    | (go_at_call 131; refine Calls.mono (dwords_any o1 idr idh (F + 1) (W2.drewN n5) r ph pa pm (n + 1) 2 most D l hb5 hh5 HR.out.1.1 HR.out.1.2 (by decide) (by decide) HR.out.2.2.2.2.2.2.1 HF1.out.2.2.2.1 HF1.out.2.2.2.2.1) ?_; rintro e w9 ⟨own9, x9, hq⟩; unfold WordsEnd at hq; rw [if_pos HCD.out.1] at hq; obtain ⟨sl, rfl, hr9⟩ := hq; obtain ⟨g, cp, rfl, _⟩ := hr9.form_pos (by decide); have q0 : w9.cell? ⟨g, 0, none⟩ = some (.int .u64 y0) := hr9.cell 0 (by rw [List.getElem?_map, cellsAt_get (by decide) HCD.out.1, HCD.out.2.1]; rfl); have q1 : w9.cell? ⟨g, 1, none⟩ = some (.int .u64 y1) := hr9.cell 1 (by rw [List.getElem?_map, cellsAt_get (by decide) HCD.out.1, HCD.out.2.2.1]; rfl); have kZ9 := kZ5.keep x9 HF1.out.2.2.2.2.2.1; have x59 : Ext own own9 [idr, idv] w w9 := (by have z := (x5.mono (jds := [idr, idv, F + 1]) (by intro i hi; simp only [List.mem_cons, List.not_mem_nil, or_false] at hi ⊢; omega)).trans (x9.mono (jds := [idr, idv, F + 1]) (by simp)); exact ⟨z.os, z.tape, z.output, z.size, z.own, fun b hb hn => z.block b hb (by have := HFF.out b hb; simp at hn ⊢; omega)⟩); have hb9 : RB own9 idr w9 r ph pa pm (n + 1) := Blk.keep hb5 x9 HF1.out.2.1; have hM9 : RM own9 idv w9 pm (numV P 0) := hM5.keep x9 HF1.out.2.2.1; have b0 := kZ9.cell 0 rfl; have b1 := kZ9.cell 1 rfl; have b2 := kZ9.cell 2 rfl; have b3 := kZ9.cell 3 rfl; have b4 := kZ9.cell 4 rfl; have b5 := kZ9.cell 5 rfl; have bf0 := kZ9.free 0; have bf1 := kZ9.free 1; have bf2 := kZ9.free 2; have bf3 := kZ9.free 3; have bf4 := kZ9.free 4; have bf5 := kZ9.free 5))
                  have HS : w9.drew.cell? ⟨g, 0, none⟩ = some (.int .u64 y0) ∧ w9.drew.cell? ⟨g, 1, none⟩ = some (.int .u64 y1) := ⟨q0, q1⟩
                  refine wp_calmN ?_
                  refine wp_region_till 7 (fun W => W.cell? ⟨g, 0, none⟩ = some (.int .u64 y0) ∧ W.cell? ⟨g, 1, none⟩ = some (.int .u64 y1)) (by kernel_rfl) ?_
                  refine wpTill_free 0 (v := ?_) rfl (by kernel_rfl) (by kernel_rfl) (by kernel_rfl) (by kernel_rfl) (fun _ _ _ h => h) rfl (fun _ => HS) ?_ ?_
                  rotate_left 1
                  · intro w; go_simp; try with_reducible rfl
                  try simp only [Act.put, List.setIfInBounds_toArray, List.set_cons_zero, List.set_cons_succ, List.getElem_toArray, List.getElem_cons_succ, List.getElem_cons_zero]
                  refine wpTill_free 1 (v := ?_) rfl (by kernel_rfl) (by kernel_rfl) (by kernel_rfl) (by kernel_rfl) (fun _ _ _ h => h) rfl (fun _ => HS) ?_ ?_
                  rotate_left 1
                  · intro w; go_simp; try with_reducible rfl
                  try simp only [Act.put, List.setIfInBounds_toArray, List.set_cons_zero, List.set_cons_succ, List.getElem_toArray, List.getElem_cons_succ, List.getElem_cons_zero]
                  refine wpTill_take 2 (v := ?_) rfl (by kernel_rfl) (by kernel_rfl) (by kernel_rfl) (by kernel_rfl) (by kernel_rfl) (fun _ _ _ h => h) rfl HS ?_ ?_
                  rotate_left 1
                  · intro w hSw; go_split_ands; go_simp; try with_reducible rfl
                  try simp only [Act.put, List.setIfInBounds_toArray, List.set_cons_zero, List.set_cons_succ, List.getElem_toArray, List.getElem_cons_succ, List.getElem_cons_zero]
                  refine wpTill_free 3 (v := ?_) rfl (by kernel_rfl) (by kernel_rfl) (by kernel_rfl) (by kernel_rfl) (fun _ _ _ h => h) rfl (fun _ => HS) ?_ ?_
                  rotate_left 1
                  · intro w; go_simp; try with_reducible rfl
                  try simp only [Act.put, List.setIfInBounds_toArray, List.set_cons_zero, List.set_cons_succ, List.getElem_toArray, List.getElem_cons_succ, List.getElem_cons_zero]
                  refine wpTill_free 4 (v := ?_) rfl (by kernel_rfl) (by kernel_rfl) (by kernel_rfl) (by kernel_rfl) (fun _ _ _ h => h) rfl (fun _ => HS) ?_ ?_
                  rotate_left 1
                  · intro w; go_simp; try with_reducible rfl
                  try simp only [Act.put, List.setIfInBounds_toArray, List.set_cons_zero, List.set_cons_succ, List.getElem_toArray, List.getElem_cons_succ, List.getElem_cons_zero]
                  refine wpTill_take 5 (v := ?_) rfl (by kernel_rfl) (by kernel_rfl) (by kernel_rfl) (by kernel_rfl) (by kernel_rfl) (fun _ _ _ h => h) rfl HS ?_ ?_
                  rotate_left 1
                  · intro w hSw; go_split_ands; go_simp; try with_reducible rfl
                  try simp only [Act.put, List.setIfInBounds_toArray, List.set_cons_zero, List.set_cons_succ, List.getElem_toArray, List.getElem_cons_succ, List.getElem_cons_zero]
                  refine wpTill_free 6 (v := ?_) rfl (by kernel_rfl) (by kernel_rfl) (by kernel_rfl) (by kernel_rfl) (fun _ _ _ h => h) rfl (fun _ => HS) ?_ ?_
                  rotate_left 1
                  · intro w; go_simp; try with_reducible rfl
                  try simp only [Act.put, List.setIfInBounds_toArray, List.set_cons_zero, List.set_cons_succ, List.getElem_toArray, List.getElem_cons_succ, List.getElem_cons_zero]
                  refine wpTill_one 7 rfl (by kernel_rfl) rfl (fun K hK => ?_)
                  go_simp
                  refine hK.out _ _ (Till.gone (by kernel_rfl)) ?_
                  clear hK K
                  try simp only [Act.put, List.setIfInBounds_toArray, List.set_cons_zero, List.set_cons_succ, List.getElem_toArray, List.getElem_cons_succ, List.getElem_cons_zero]
                  refine wpTill_free 8 (v := ?_) rfl (by kernel_rfl) (by kernel_rfl) (by kernel_rfl) (by kernel_rfl) (fun _ _ _ h => h) rfl (Till.gone (by kernel_rfl)) ?_ ?_
                  rotate_left 1
                  · intro w; go_simp; try with_reducible rfl
                  try simp only [Act.put, List.setIfInBounds_toArray, List.set_cons_zero, List.set_cons_succ, List.getElem_toArray, List.getElem_cons_succ, List.getElem_cons_zero]
                  refine wpTill_done (by kernel_rfl) ?_ _
                  go_wp2_with fail
                  have HE := Lib.hid (store_resI (v0 := .int .i64 4) (v1 := .string { data := #[] }) (v2 := .int .i64 0) (v3 := .int .u64 y0) (v4 := .int .u64 y1) (v5 := .slice none 0 0) x59 (Nat.le_refl _) kZ9)
                  (try simp only [Exit.inBlock, Exit.then])
                  refine bodyPost_ret (v := .tuple #[.agg #[.int .i64 4, .string ByteArray.empty, .int .i64 0, .int .u64 y0, .int .u64 y1, .slice none 0 0], .int .i64 0]) ?_ rfl ?_
                  · rw [results_cell_tmp rfl]
                    have kk := HE.out.2.2
                    have z0 := kk.cell 0 rfl
                    have z1 := kk.cell 1 rfl
                    have z2 := kk.cell 2 rfl
                    have z3 := kk.cell 3 rfl
                    have z4 := kk.cell 4 rfl
                    have z5 := kk.cell 5 rfl
                    go_simp
                    try rfl
                  · exact ⟨own9, HE.out.1.drew, GetEnd.good (c := .cpx y0 y1) (Blk.keep (Blk.keep hb9 HE.out.2.1 HR.out.2.2.1) (Ext.refl own9 [] _).drew (by simp)) ((hM9.keep HE.out.2.1 HR.out.2.2.2.1).keep (Ext.refl own9 [] _).drew (by simp)) (leaf_term ⟨by decide, by decide, HCD.out.2.2.2.1, HCD.out.2.2.2.2, by decide⟩)⟩
                · rw [if_neg hcd] at hG
                  subst hG
                  have HCD := Lib.hid (show ¬ ((D / 8).toNat + 2 ≤ l.length) by omega)
                  clear hcd hv0
                  go_enter Try.func92, Try.ntmps92
                  go_wp2_with (first
                    | (go_at_call 109; refine Calls.mono HD.out ?_; rintro e w9 ⟨rfl, n5, rfl⟩; have xd := (Ext.refl o1 [] W2).drewN n5; have kZ5 := HB.out.1.keep xd (by simp); have x5 := HB.out.2.1.trans (xd.mono (jds := [idr, idv]) (by simp)); have hM5 : RM o1 idv (W2.drewN n5) pm (numV P 0) := HB.out.2.2.1.keep xd (by simp); have hb5 : RB o1 idr (W2.drewN n5) r ph pa pm (n + 1) := Blk.keep HB.out.2.2.2.1 xd (by simp); have ha5 : TabP o1 ida idm (W2.drewN n5) pa L := HB.out.2.2.2.2.1.keep xd (by simp) (by simp); have hh5 : HP o1 idh (W2.drewN n5) ph most l := HB.out.2.2.2.2.2.keep xd (by simp); have b0 := kZ5.cell 0 rfl; have b1 := kZ5.cell 1 rfl; have b2 := kZ5.cell 2 rfl; have b3 := kZ5.cell 3 rfl; have b4 := kZ5.cell 4 rfl; have b5 := kZ5.cell 5 rfl; have bf0 := kZ5.free 0; have bf1 := kZ5.free 1; have bf2 := kZ5.free 2; have bf3 := kZ5.free 3; have bf4 := kZ5.free 4; have bf5 := kZ5.free 5)
                    | (go_at_call 126; refine (HT.out _).mono ?_; rintro e w9 ⟨rfl, hw9⟩; rw [hw9]; clear hw9)
                    | (go_at_call 131; refine Calls.mono (dwords_any o1 idr idh (F + 1) (W2.drewN n5) r ph pa pm (n + 1) 2 most D l hb5 hh5 HR.out.1.1 HR.out.1.2 (by decide) (by decide) HR.out.2.2.2.2.2.2.1 HF1.out.2.2.2.1 HF1.out.2.2.2.2.1) ?_; rintro e w9 ⟨own9, x9, hq⟩; unfold WordsEnd at hq; rw [if_neg HCD.out] at hq; obtain rfl := hq; have kZ9 := kZ5.keep x9 HF1.out.2.2.2.2.2.1; have x59 : Ext own own9 [idr, idv] w w9 := (by have z := (x5.mono (jds := [idr, idv, F + 1]) (by intro i hi; simp only [List.mem_cons, List.not_mem_nil, or_false] at hi ⊢; omega)).trans (x9.mono (jds := [idr, idv, F + 1]) (by simp)); exact ⟨z.os, z.tape, z.output, z.size, z.own, fun b hb hn => z.block b hb (by have := HFF.out b hb; simp at hn ⊢; omega)⟩); have hb9 : RB own9 idr w9 r ph pa pm (n + 1) := Blk.keep hb5 x9 HF1.out.2.1; have hM9 : RM own9 idv w9 pm (numV P 0) := hM5.keep x9 HF1.out.2.2.1; have b0 := kZ9.cell 0 rfl; have b1 := kZ9.cell 1 rfl; have b2 := kZ9.cell 2 rfl; have b3 := kZ9.cell 3 rfl; have b4 := kZ9.cell 4 rfl; have b5 := kZ9.cell 5 rfl; have bf0 := kZ9.free 0; have bf1 := kZ9.free 1; have bf2 := kZ9.free 2; have bf3 := kZ9.free 3; have bf4 := kZ9.free 4; have bf5 := kZ9.free 5))
                  have HE := Lib.hid (store_resI (v0 := .int .i64 0) (v1 := .string { data := #[] }) (v2 := .int .i64 0) (v3 := .int .u64 0) (v4 := .int .u64 0) (v5 := .slice none 0 0) x59 (Nat.le_refl _) kZ9)
                  (try simp only [Exit.inBlock, Exit.then])
                  refine bodyPost_ret (v := .tuple #[.agg #[.int .i64 0, .string ByteArray.empty, .int .i64 0, .int .u64 0, .int .u64 0, .slice none 0 0], .int .i64 2]) ?_ rfl ?_
                  · rw [results_cell_tmp rfl]
                    have kk := HE.out.2.2
                    have z0 := kk.cell 0 rfl
                    have z1 := kk.cell 1 rfl
                    have z2 := kk.cell 2 rfl
                    have z3 := kk.cell 3 rfl
                    have z4 := kk.cell 4 rfl
                    have z5 := kk.cell 5 rfl
                    go_simp
                    try rfl
                  · exact ⟨own9, HE.out.1, GetEnd.bad (Blk.keep hb9 HE.out.2.1 HR.out.2.2.1) (hM9.keep HE.out.2.1 HR.out.2.2.2.1) (by decide)⟩
              · rw [if_neg t5] at hG
                subst hG
                have q0 : (D % 8 == 0) = false := by simpa using t0
                have q1 : (D % 8 == 1) = false := by simpa using t1
                have q2 : (D % 8 == 2) = false := by simpa using t2
                have q3 : (D % 8 == 3) = false := by simpa using t3
                have q4 : (D % 8 == 4) = false := by simpa using t4
                have q5 : (D % 8 == 5) = false := by simpa using t5
                clear t0 t1 t2 t3 t4 t5
                go_enter Try.func92, Try.ntmps92
                go_wp2_with (first
                  | (go_at_call 109; refine Calls.mono HD.out ?_; rintro e w9 ⟨rfl, n5, rfl⟩; have xd := (Ext.refl o1 [] W2).drewN n5; have kZ5 := HB.out.1.keep xd (by simp); have x5 := HB.out.2.1.trans (xd.mono (jds := [idr, idv]) (by simp)); have hM5 : RM o1 idv (W2.drewN n5) pm (numV P 0) := HB.out.2.2.1.keep xd (by simp); have hb5 : RB o1 idr (W2.drewN n5) r ph pa pm (n + 1) := Blk.keep HB.out.2.2.2.1 xd (by simp); have ha5 : TabP o1 ida idm (W2.drewN n5) pa L := HB.out.2.2.2.2.1.keep xd (by simp) (by simp); have hh5 : HP o1 idh (W2.drewN n5) ph most l := HB.out.2.2.2.2.2.keep xd (by simp); have b0 := kZ5.cell 0 rfl; have b1 := kZ5.cell 1 rfl; have b2 := kZ5.cell 2 rfl; have b3 := kZ5.cell 3 rfl; have b4 := kZ5.cell 4 rfl; have b5 := kZ5.cell 5 rfl; have bf0 := kZ5.free 0; have bf1 := kZ5.free 1; have bf2 := kZ5.free 2; have bf3 := kZ5.free 3; have bf4 := kZ5.free 4; have bf5 := kZ5.free 5)
                  | (go_at_call 126; refine (HT.out _).mono ?_; rintro e w9 ⟨rfl, hw9⟩; rw [hw9]; clear hw9))
                have HE := Lib.hid (store_resI (v0 := .int .i64 0) (v1 := .string { data := #[] }) (v2 := .int .i64 0) (v3 := .int .u64 0) (v4 := .int .u64 0) (v5 := .slice none 0 0) x5 (Nat.le_refl _) kZ5)
                (try simp only [Exit.inBlock, Exit.then])
                refine bodyPost_ret (v := .tuple #[.agg #[.int .i64 0, .string ByteArray.empty, .int .i64 0, .int .u64 0, .int .u64 0, .slice none 0 0], .int .i64 2]) ?_ rfl ?_
                · rw [results_cell_tmp rfl]
                  have kk := HE.out.2.2
                  have z0 := kk.cell 0 rfl
                  have z1 := kk.cell 1 rfl
                  have z2 := kk.cell 2 rfl
                  have z3 := kk.cell 3 rfl
                  have z4 := kk.cell 4 rfl
                  have z5 := kk.cell 5 rfl
                  go_simp
                  try rfl
                · exact ⟨o1, HE.out.1, GetEnd.bad (Blk.keep hb5 HE.out.2.1 HR.out.2.2.1) (hM5.keep HE.out.2.1 HR.out.2.2.2.1) (by decide)⟩

end Go.Proofs.Ytlmcfclonncgbaa
