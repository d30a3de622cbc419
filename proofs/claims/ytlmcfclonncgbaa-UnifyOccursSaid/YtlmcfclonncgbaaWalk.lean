/- May of package term: a walk by a stack. -/
import Derived.Test.YtlmcfclonncgbaaPk4
import Derived.ScopeJumps
namespace Go.Proofs.Ytlmcfclonncgbaa
open Go.RowKit
set_option linter.unusedVariables false

open Go.Shelf
theorem wp_scope_once {P : Program} {Q : Exit → Act → World → Prop} {a : Act} {w : World} {c body : Code} (l : Nat) (J : Act → World → Prop) (μ : Act → World → Nat) (hf : findLabel c l = some (Code.skip.seq body))
    (pass : ∀ a w, J a w → body.wp P (Exit.jump l (fun a' w' => J a' w' ∧ μ a' w' < μ a w) Q) a w)
    (first : (∀ a w, J a w → body.wp P (Exit.jump l J Q) a w) → c.wp P (Exit.jump l J Q) a w) : (Code.scope c).wp P Q a w :=
  wp_scope_jumps l J μ hf (first fun a w h => wp_mono (pass a w h) (fun e a' w' hq => by
    cases e <;> first | exact hq | exact ⟨hq.1, hq.2.1⟩)) (fun a w h => wp_seq (wp_skip (pass a w h)))
/-- A slice just built is a row of one's own. -/
theorem Row.built (own : Nat → Nat) (id : Nat) (w : World) (e : TypeId) (size : Nat) (ys : List Value) (hys : ys.length = size) (hs : 0 < size) :
    Row (give own w.heap.size id) id (w.alloc (.cells ys.toArray e)) e size (.slice (some ⟨w.heap.size, 0, none⟩) 1 1) 1 ys := by
  refine ⟨⟨by omega, Or.inr ⟨w.heap.size, 1, ys.toArray, rfl, Nat.zero_le _, heap_alloc_new _ _, by omega, ?_⟩⟩, fun k hk => ?_⟩
  · refine ⟨by decide, by simp [hys], by simp [← hys]⟩
  · simp [Value.ownBlock] at hk
    subst hk
    exact give_same _ _ _
theorem neq_nilfn (w : World) : (binOp BinOp.neq 211 Value.nilFunc Value.nilFunc).run Try.prog w = .ok (.bool false) w := by kernel_rfl
set_option maxRecDepth 100000 in
set_option maxHeartbeats 4000000 in
theorem twalk_any (t : Tm) (sl : Value) (own : Nat → Nat) (w : World) (h : TmS own w t sl) :
    Calls Try.prog 119 #[valT t sl, .nilFunc] w (Does own [] w fun own' e w' => ∃ a b : Value, e = .returned (.tuple #[a, b, .int .i64 (mayE t)])) := by
  obtain ⟨A, len, cap, rfl, hL⟩ := h.args
  have e : valT t (.slice A len cap) = .agg #[.int .i64 t.kind, .string t.name, .int .i64 t.int, .int .u64 t.re, .int .u64 t.im, .slice A len cap] := rfl
  rw [e]
  go_enter Try.func119, Try.ntmps119
  obtain ⟨F, hF0, hF⟩ := own_ne own w.heap.size
  go_wp2_with fail
  refine wp_scope_once 0 (fun a' w' => ∃ (n dp : Nat) (v : Value) (L : List AtX) (own' : Nat → Nat) (u8 u9 u10 u11 u12 u13 u14 u15 u16 u17 u18 u19 u20 u21 u22 u23 u24 u25 u26 u27 u28 u29 u30 u31 u32 u33 u34 u35 u36 u37 u38 u39 u40 u41 u42 u43 u44 u45 u46 u47 u48 u49 u50 u51 u52 u53 u54 u55 : Value), Ext own own' [F] w w' ∧ Row own' F w' 213 7 v L.length (atCells L) ∧ (∀ y ∈ L, TmS own' w' y.t (.slice y.A y.l y.c) ∧ y.d ≤ 501) ∧ goS (L.map (fun y : AtX => (y.t, y.d))).reverse n = mayE t ∧ n ≤ 2000 ∧ dp ≤ 501 ∧ L.length ≤ 20 * n + 1 ∧
      a' = { tmps := #[.agg #[.int .i64 t.kind, .string t.name, .int .i64 t.int, .int .u64 t.re, .int .u64 t.im, .slice A len cap], .nilFunc, .pointer (some ⟨w.heap.size, 0, none⟩), undef, .int .i64 (n : Int), .int .i64 (dp : Int), .int .i64 0, v, u8, u9, u10, u11, u12, u13, u14, u15, u16, u17, u18, u19, u20, u21, u22, u23, u24, u25, u26, u27, u28, u29, u30, u31, u32, u33, u34, u35, u36, u37, u38, u39, u40, u41, u42, u43, u44, u45, u46, u47, u48, u49, u50, u51, u52, u53, u54, u55], defers := [] })
    (fun a' _ => 2001 - (intOf (a'.tmps.getD 4 undef)).toNat) rfl ?pass ?first
  case first =>
    intro hp
    go_wp2_with fail
    go_step3
    rename_i hk
    refine hk _ _ (hp _ _ ⟨0, 0, _, [⟨t, A, len, cap, 1⟩], give own (w.heap.size + 1) F, _, _, _, _, _, _, _, _, _, _, _, _, _, _, _, _, _, _, _, _, _, _, _, _, _, _, _, _, _, _, _, _, _, _, _, _, _, _, _, _, _, _, _, _, _, _, _, _, ?_, ?_, ?_, ?_, by omega, by omega, by simp, rfl⟩)
    · have x1 := ((Ext.refl own [F] w).alloc (.cells #[.int .i64 t.kind, .string t.name, .int .i64 t.int, .int .u64 t.re, .int .u64 t.im, .slice A len cap] 25)).alloc (.cells #[.int .i64 t.kind, .string t.name, .int .i64 t.int, .int .u64 t.re, .int .u64 t.im, .slice A len cap, .int .i64 1] 213)
      exact x1.give _ _ (by omega)
    · have := Row.built own F (w.alloc (.cells #[.int .i64 t.kind, .string t.name, .int .i64 t.int, .int .u64 t.re, .int .u64 t.im, .slice A len cap] 25)) 213 7 (AtX.cells ⟨t, A, len, cap, 1⟩) rfl (by decide)
      rw [World.size_alloc] at this
      simpa [atCells, AtX.cells] using this
    · intro y hy
      simp at hy
      subst hy
      have x1 := (((Ext.refl own [] w).alloc (.cells #[.int .i64 t.kind, .string t.name, .int .i64 t.int, .int .u64 t.re, .int .u64 t.im, .slice A len cap] 25)).alloc (.cells #[.int .i64 t.kind, .string t.name, .int .i64 t.int, .int .u64 t.re, .int .u64 t.im, .slice A len cap, .int .i64 1] 213)).give (w.heap.size + 1) F (by omega)
      exact ⟨TmS.keep x1 (by simp) t _ h, by simp⟩
    · simpa using goS_one t
  case pass =>
    rintro a' w' ⟨n, dp, v, L, own', u8, u9, u10, u11, u12, u13, u14, u15, u16, u17, u18, u19, u20, u21, u22, u23, u24, u25, u26, u27, u28, u29, u30, u31, u32, u33, u34, u35, u36, u37, u38, u39, u40, u41, u42, u43, u44, u45, u46, u47, u48, u49, u50, u51, u52, u53, u54, u55, x, hR, hT, hgo, hn, hdp, hLn, rfl⟩
    rcases List.eq_nil_or_concat L with rfl | ⟨L0, y, hcat⟩
    · obtain ⟨A0, cap0, rfl, hc0⟩ := hR.form
      have h0 : mayE t = 0 := by rw [← hgo]; simp [goS.eq_def]
      have H0 := Lib.hid h0
      clear hgo h0
      go_wp2_with fail
      (try simp only [Exit.jump])
      go_ret3
      exact ⟨own', x.only hF, _, _, by rw [H0.out]; rfl⟩
    · rw [List.concat_eq_append] at hcat
      subst hcat
      obtain ⟨g, cap, rfl, hcap⟩ := hR.form_pos (by simp)
      have hlen1 : (L0 ++ [y]).length = L0.length + 1 := by simp
      have cy : ∀ q u, y.cells[q]? = some u → w'.cell? ⟨g, L0.length * 7 + q, none⟩ = some u := by
        intro q u hu
        refine hR.cell _ ?_
        rw [atCells_append, List.getElem?_append_right (by rw [atCells_length]; omega), atCells_length]
        simpa [atCells] using hu
      have c0 : w'.cell? ⟨g, L0.length * 7, none⟩ = some (.int .i64 y.t.kind) := cy 0 _ rfl
      have c1 := cy 1 _ rfl
      have c2 := cy 2 _ rfl
      have c3 := cy 3 _ rfl
      have c4 := cy 4 _ rfl
      have c5 := cy 5 _ rfl
      have c6 := cy 6 _ rfl
      obtain ⟨hTy, hdy⟩ := hT y (by simp)
      have hT0 : ∀ z ∈ L0, TmS own' w' z.t (.slice z.A z.l z.c) ∧ z.d ≤ 501 := fun z hz => hT z (by simp [hz])
      have hgo2 : (if n = 2000 ∨ 500 < y.d then 3 else if oneE y.t ≠ 0 then oneE y.t else goS (kidsOf y.t y.d ++ (L0.map (fun y : AtX => (y.t, y.d))).reverse) (n + 1)) = mayE t := by
        rw [← hgo]
        simp only [List.map_append, List.map_cons, List.map_nil, List.reverse_append, List.reverse_cons, List.reverse_nil, List.nil_append, List.cons_append]
        rw [goS.eq_def ((y.t, y.d) :: _)]
      rw [hlen1] at hR hLn hcap
      have hcut := hR.cut (m := L0.length) (by omega)
      have htk : (atCells (L0 ++ [y])).take (L0.length * 7) = atCells L0 := by
        rw [atCells_append, List.take_append_of_le_length (by rw [atCells_length]; exact Nat.le_refl _), List.take_of_length_le (by rw [atCells_length]; exact Nat.le_refl _)]
      rw [htk] at hcut
      rw [hlen1]
      clear hgo cy hT htk hlen1
      have hN0 : (L0.length : Int) ≤ 40001 := by omega
      have hcp : L0.length ≤ cap := by omega
      by_cases hA : n = 2000 ∨ 500 < y.d
      · rw [if_pos hA] at hgo2
        have H0 := Lib.hid hgo2
        clear hgo2
        rcases hA with hA | hA
        · subst hA
          go_wp2_with fail
          (try simp only [Exit.jump])
          go_ret3
          exact ⟨own', (x.only hF).alloc _, _, _, by rw [← H0.out]; rfl⟩
        · have hA' : (500 : Int) < (y.d : Int) := by omega
          go_wp2_with fail
          all_goals (try simp only [Exit.jump])
          all_goals go_ret3
          all_goals exact ⟨own', (x.only hF).alloc _, _, _, by rw [← H0.out]; rfl⟩
      · rw [if_neg hA] at hgo2
        have hA1 : ((n : Int) == 2000) = false := by simp; omega
        have hA2 : (y.d : Int) ≤ 500 := by omega
        obtain ⟨xb, kb, yb⟩ := x.box y.cells 213 (F + 1)
        have hr1 := hcut.keep yb (by simp)
        have hT1 := TmS.keep yb (by simp) y.t _ hTy
        have hT2 : ∀ z ∈ L0, TmS (give own' w'.heap.size (F + 1)) (w'.alloc (.cells y.cells.toArray 213)) z.t (.slice z.A z.l z.c) ∧ z.d ≤ 501 := fun z hz => ⟨TmS.keep yb (by simp) z.t _ (hT0 z hz).1, (hT0 z hz).2⟩
        clear hTy hT0 hR hcut
        go_wp2_with fail
        refine (one_any y.t _ _ _ hT1).mono ?_
        rintro e w2 ⟨own2, x2, rfl⟩
        have kb2 := kb.keep x2 (by simp)
        have hr2 := hr1.keep x2 (by simp)
        have hT3 := TmS.keep x2 (by simp) y.t _ hT1
        have hT4 : ∀ z ∈ L0, TmS own2 w2 z.t (.slice z.A z.l z.c) ∧ z.d ≤ 501 := fun z hz => ⟨TmS.keep x2 (by simp) z.t _ (hT2 z hz).1, (hT2 z hz).2⟩
        have xw2 := xb.trans (x2.mono (jds := [F]) (by simp))
        clear hT1 hT2 hr1 kb yb x2 xb c0 c1 c2 c3 c4 c5 c6
        have d0 := kb2.cell 0 rfl
        have d1 := kb2.cell 1 rfl
        have d2 := kb2.cell 2 rfl
        have d3 := kb2.cell 3 rfl
        have d4 := kb2.cell 4 rfl
        have d5 := kb2.cell 5 rfl
        have d6 := kb2.cell 6 rfl
        by_cases hB : oneE y.t = 0
        · rw [if_neg (by simp [hB])] at hgo2
          have hB' : (oneE y.t == 0) = true := by simp [hB]
          have hnf := neq_nilfn w2
          have HG := Lib.hid hgo2
          have HBI := Lib.hid hB
          clear hgo2 hB
          go_wp2_with fail
          all_goals (refine (tpush_any y own2 F w2 _ L0.length L0 hr2 rfl hF0 hT3 HBI.out (by omega) (by omega)).mono ?_)
          all_goals (rintro e w3 ⟨own3, x3, v3, K, rfl, hr3, hK, hTK, hK20⟩)
          all_goals go_wp2_with fail
          all_goals go_step3
          all_goals (have x4 := xw2.trans x3)
          all_goals (rw [HBI.out])
          all_goals (refine ⟨rfl, ⟨n + 1, _, v3, L0 ++ K, own3, _, _, _, _, _, _, _, _, _, _, _, _, _, _, _, _, _, _, _, _, _, _, _, _, _, _, _, _, _, _, _, _, _, _, _, _, _, _, _, _, _, _, _, _, _, _, _, _, x4, by rw [List.length_append]; exact hr3, ?_, ?_, by omega, ?_, by rw [List.length_append]; omega, by go_num⟩, ?_⟩)
          all_goals first
            | (intro z hz
               rcases List.mem_append.1 hz with hz | hz
               · exact ⟨TmS.keep x3 (by simpa using hF0.symm) z.t _ (hT4 z hz).1, (hT4 z hz).2⟩
               · refine ⟨hTK z hz, ?_⟩
                 have hmem : (z.t, z.d) ∈ kidsOf y.t y.d := by rw [← hK]; simp; exact ⟨z, hz, rfl, rfl⟩
                 unfold kidsOf at hmem
                 split at hmem
                 · obtain ⟨q, _, hq⟩ := List.mem_map.1 hmem
                   have := congrArg Prod.snd hq
                   dsimp only at this
                   omega
                 · simp at hmem)
            | (rw [List.map_append, List.reverse_append, hK]; exact HG.out)
            | (simp [intOf]; omega)
            | omega
        · rw [if_pos hB] at hgo2
          have hB' : (oneE y.t == 0) = false := by simpa using hB
          have H0 := Lib.hid hgo2
          clear hgo2 hB
          go_wp2_with fail
          (try simp only [Exit.jump])
          go_ret3
          exact ⟨own2, xw2.only hF, _, _, by rw [← H0.out]; rfl⟩

end Go.Proofs.Ytlmcfclonncgbaa
