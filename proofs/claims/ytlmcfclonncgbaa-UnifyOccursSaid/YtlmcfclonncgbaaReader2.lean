/- The reader's name, variable (package store). -/
import Derived.Test.YtlmcfclonncgbaaReader1
import Derived.Test.YtlmcfclonncgbaaRPlain
import Derived.Laws.ResultCell
namespace Go.Proofs.Ytlmcfclonncgbaa
open Go.RowKit
set_option linter.unusedVariables false
set_option linter.unusedSimpArgs false

theorem dname_in (own : Nat → Nat) (idr ida idm : Nat) (w : World) (r ph pa pm k : Nat) (n : Int) (L : List ByteArray) (hb : RB own idr w r ph pa pm k) (ha : TabP own ida idm w pa L) (h0 : 0 ≤ n) (hn : n < L.length) (hL : L.length ≤ 4096) :
    Calls Try.prog 129 #[.pointer (some ⟨r, 0, none⟩), .int .u64 n] w (Quiet w (.tuple #[.string (L.getD n.toNat ByteArray.empty), .bool true])) := by
  have c1 := hb.cell 1 rfl
  have hn0 : n < 4096 := by omega
  have hw : IntKind.i64.wrap n = n := by rw [IntKind.wrap_i64]; omega
  have hg : L[n.toNat]? = some (L.getD n.toNat ByteArray.empty) := by simp [List.getD, List.getElem?_eq_getElem (show n.toNat < L.length by omega)]
  have hc := aname_in own ida idm pa n.toNat _ L w ha hg
  rw [show ((n.toNat : Nat) : Int) = n by omega] at hc
  have HC := Lib.hid hc
  generalize L.getD n.toNat ByteArray.empty = s at *
  clear hc hg hn hL h0
  go_enter Try.func129, Try.ntmps129
  go_wp2_with (go_at_call 161; refine Calls.mono HC.out ?_; rintro e w' ⟨rfl, n5, rfl⟩)
  go_ret2
  exact ⟨rfl, n5, rfl⟩
theorem dname_out (own : Nat → Nat) (idr ida idm : Nat) (w : World) (r ph pa pm k : Nat) (n : Int) (L : List ByteArray) (hb : RB own idr w r ph pa pm k) (ha : TabP own ida idm w pa L) (hn : (L.length : Int) ≤ n) (hn1 : n < 18446744073709551616) (hL : L.length ≤ 4096) :
    Calls Try.prog 129 #[.pointer (some ⟨r, 0, none⟩), .int .u64 n] w (Quiet w (.tuple #[.string ByteArray.empty, .bool false])) := by
  have c1 := hb.cell 1 rfl
  by_cases h4 : 4096 ≤ n
  · go_enter Try.func129, Try.ntmps129
    go_wp2_with fail
    go_ret2
    exact ⟨rfl, 0, rfl⟩
  · have hw : IntKind.i64.wrap n = n := by rw [IntKind.wrap_i64]; omega
    have h4' : n < 4096 := by omega
    go_enter Try.func129, Try.ntmps129
    go_wp2_with (go_at_call 161; refine (aname_out own ida idm pa n L _ ha (Or.inr hn)).mono ?_; rintro e w' ⟨rfl, n5, rfl⟩)
    go_ret2
    exact ⟨rfl, n5, rfl⟩

theorem look_mem : ∀ (P : List Int) (V n : Int), V ∈ P → ∃ m, look (numV P n) V = some m
  | [], V, n, h => by simp at h
  | a :: P, V, n, h => by
    simp only [numV, look]
    by_cases e : a = V
    · exact ⟨n, by rw [if_pos e]⟩
    · rw [if_neg e]
      exact look_mem P V (n + 1) (by simpa [Ne.symm e] using h)
theorem store_resI {own own3 : Nat → Nat} {w w3 : World} {ids : List Nat} {q idz : Nat} {z0 z1 z2 z3 z4 z5 v0 v1 v2 v3 v4 v5 : Value} (hx : Ext own own3 ids w w3) (hq : w.heap.size ≤ q) (hZ : Blk own3 idz w3 q [z0, z1, z2, z3, z4, z5] 25) :
    Ext own own3 ids w (((((((w3).setCell ⟨q, 0, none⟩ (v0)).setCell ⟨q, 1, none⟩ (v1)).setCell ⟨q, 2, none⟩ (v2)).setCell ⟨q, 3, none⟩ (v3)).setCell ⟨q, 4, none⟩ (v4)).setCell ⟨q, 5, none⟩ (v5)) ∧ Ext own3 own3 [idz] w3 (((((((w3).setCell ⟨q, 0, none⟩ (v0)).setCell ⟨q, 1, none⟩ (v1)).setCell ⟨q, 2, none⟩ (v2)).setCell ⟨q, 3, none⟩ (v3)).setCell ⟨q, 4, none⟩ (v4)).setCell ⟨q, 5, none⟩ (v5)) ∧ Blk own3 idz (((((((w3).setCell ⟨q, 0, none⟩ (v0)).setCell ⟨q, 1, none⟩ (v1)).setCell ⟨q, 2, none⟩ (v2)).setCell ⟨q, 3, none⟩ (v3)).setCell ⟨q, 4, none⟩ (v4)).setCell ⟨q, 5, none⟩ (v5)) q [v0, v1, v2, v3, v4, v5] 25 := by
  have hc : own3 q ∈ [idz] := by rw [hZ.2]; simp
  have hnl : ¬ (q < w.heap.size) := by omega
  exact ⟨((((((hx).setCell ⟨q, 0, none⟩ _ (fun h => absurd h hnl)).setCell ⟨q, 1, none⟩ _ (fun h => absurd h hnl)).setCell ⟨q, 2, none⟩ _ (fun h => absurd h hnl)).setCell ⟨q, 3, none⟩ _ (fun h => absurd h hnl)).setCell ⟨q, 4, none⟩ _ (fun h => absurd h hnl)).setCell ⟨q, 5, none⟩ _ (fun h => absurd h hnl), ((((((Ext.refl own3 [idz] w3).setCell ⟨q, 0, none⟩ _ (fun _ => hc)).setCell ⟨q, 1, none⟩ _ (fun _ => hc)).setCell ⟨q, 2, none⟩ _ (fun _ => hc)).setCell ⟨q, 3, none⟩ _ (fun _ => hc)).setCell ⟨q, 4, none⟩ _ (fun _ => hc)).setCell ⟨q, 5, none⟩ _ (fun _ => hc), (((((hZ.set 0 _).set 1 _).set 2 _).set 3 _).set 4 _).set 5 _⟩
abbrev RM (own : Nat → Nat) (id : Nat) (w : World) (p : Nat) (V : List (Int × Int)) : Prop := MV own id w Try.prog .i64 .i64 3 2 p V
def VarEnd (own : Nat → Nat) (idv : Nat) (w : World) (pm : Nat) (l : List Int) (c : Int) (P : List Int) (e : Ending) : Prop :=
  if c / 8 < l.length ∧ l.getD (c / 8).toNat 0 = c then e = .returned (.tuple #[.agg #[.int .i64 1, .string ByteArray.empty, .int .i64 ((look (numV (metP P (c / 8)) 0) (c / 8)).getD 0), .int .u64 0, .int .u64 0, .slice none 0 0], .int .i64 0]) ∧ RM own idv w pm (numV (metP P (c / 8)) 0)
  else e = .returned (.tuple #[.agg #[.int .i64 0, .string ByteArray.empty, .int .i64 0, .int .u64 0, .int .u64 0, .slice none 0 0], .int .i64 2]) ∧ RM own idv w pm (numV P 0)
theorem VarEnd.no {own : Nat → Nat} {idv : Nat} {w : World} {pm : Nat} {l : List Int} {c : Int} {P : List Int} (h : ¬ (c / 8 < l.length ∧ l.getD (c / 8).toNat 0 = c)) (hM : RM own idv w pm (numV P 0)) : VarEnd own idv w pm l c P (.returned (.tuple #[.agg #[.int .i64 0, .string ByteArray.empty, .int .i64 0, .int .u64 0, .int .u64 0, .slice none 0 0], .int .i64 2])) := by unfold VarEnd; rw [if_neg h]; exact ⟨rfl, hM⟩
theorem VarEnd.yes {own : Nat → Nat} {idv : Nat} {w : World} {pm : Nat} {l : List Int} {c : Int} {P : List Int} {m : Int} (h : c / 8 < l.length ∧ l.getD (c / 8).toNat 0 = c) (hm : (look (numV (metP P (c / 8)) 0) (c / 8)).getD 0 = m) (hM : RM own idv w pm (numV (metP P (c / 8)) 0)) : VarEnd own idv w pm l c P (.returned (.tuple #[.agg #[.int .i64 1, .string ByteArray.empty, .int .i64 m, .int .u64 0, .int .u64 0, .slice none 0 0], .int .i64 0])) := by
  unfold VarEnd; rw [if_pos h, hm]; exact ⟨rfl, hM⟩
set_option maxHeartbeats 1600000 in
set_option maxRecDepth 100000 in
theorem dvar_any (own : Nat → Nat) (idr idh idv : Nat) (w : World) (r ph pa pm k : Nat) (most c : Int) (l P : List Int) (hb : RB own idr w r ph pa pm k) (hh : HP own idh w ph most l) (hM : RM own idv w pm (numV P 0)) (hc0 : 0 ≤ c) (hc1 : c < 18446744073709551616) (hll : l.length ≤ 1048576) (hP : P.length ≤ 1000000) (h1 : idr ≠ idv) (h2 : idh ≠ idv) :
    Calls Try.prog 127 #[.pointer (some ⟨r, 0, none⟩), .int .u64 c] w (Does own [idv] w fun own' e w' => VarEnd own' idv w' pm l c P e) := by
  obtain ⟨V, hV⟩ : ∃ V : Int, c / 8 = V := ⟨_, rfl⟩
  have hval : ∀ w, Calls Try.prog 111 #[.int .u64 c] w fun e w' => e = .returned (.int .u64 V) ∧ w' = w := fun w => by rw [← hV]; exact value_any c w
  have hV0 : 0 ≤ V := by omega
  have hV61 : V < 2305843009213693952 := by omega
  obtain ⟨F0, hF0, hFF⟩ := own_ne own w.heap.size
  obtain ⟨F, hF⟩ : ∃ F, F0 + idr + idh + idv + 1 = F := ⟨_, rfl⟩
  obtain ⟨x1, kZ, y1⟩ := (Ext.refl own [idv] w).box [.int .i64 0, .string { data := #[] }, .int .i64 0, .int .u64 0, .int .u64 0, .slice none 0 0] 25 F
  replace hb := Blk.keep hb y1 (by simp)
  replace hh := hh.keep y1 (by simp)
  replace hM := hM.keep y1 (by simp)
  generalize _root_.Go.Proofs.Ytlmcfclonncgbaa.give own w.heap.size F = o1 at *
  obtain ⟨W1, hW1⟩ : ∃ W1, w.alloc (.cells #[.int .i64 0, .string { data := #[] }, .int .i64 0, .int .u64 0, .int .u64 0, .slice none 0 0] 25) = W1 := ⟨_, rfl⟩
  change Blk o1 _ (w.alloc (.cells #[.int .i64 0, .string { data := #[] }, .int .i64 0, .int .u64 0, .int .u64 0, .slice none 0 0] 25)) _ _ _ at kZ
  change Blk o1 _ (w.alloc (.cells #[.int .i64 0, .string { data := #[] }, .int .i64 0, .int .u64 0, .int .u64 0, .slice none 0 0] 25)) _ _ _ at hb
  change HP o1 _ (w.alloc (.cells #[.int .i64 0, .string { data := #[] }, .int .i64 0, .int .u64 0, .int .u64 0, .slice none 0 0] 25)) _ _ _ at hh
  change MV o1 _ (w.alloc (.cells #[.int .i64 0, .string { data := #[] }, .int .i64 0, .int .u64 0, .int .u64 0, .slice none 0 0] 25)) _ _ _ _ _ _ _ at hM
  change Ext own o1 _ w (w.alloc (.cells #[.int .i64 0, .string { data := #[] }, .int .i64 0, .int .u64 0, .int .u64 0, .slice none 0 0] 25)) at x1
  rw [hW1] at kZ hb hh hM x1
  have HS : W1.drew.cell? ⟨r, 0, none⟩ = some (.pointer (some ⟨ph, 0, none⟩)) := Blk.cell hb 0 rfl
  have hwV : IntKind.i64.wrap V = V := by rw [IntKind.wrap_i64]; omega
  have hwl : IntKind.u64.wrap (l.length : Int) = l.length := by rw [wrap_u64]; omega
  have HB := Lib.hid (And.intro hb (And.intro hh (And.intro hM (And.intro kZ (And.intro x1 (And.intro hval (And.intro hV (And.intro hV0 (And.intro hll (And.intro hP hF))))))))))
  have HLEN := Lib.hid (len_any o1 idh ph most l W1.drew (hh.keep (Ext.refl o1 [] W1).drew (by simp)))
  clear hb hh hM kZ x1 y1 hval hV hF hFF hF0 hc0 hc1 hP hV61
  by_cases hin : V < l.length
  · have hin' : decide ((l.length : Int) ≤ V) = false := by simp; omega
    have hvv := HB.out.2.2.2.2.2.2.1
    by_cases hown : l.getD V.toNat 0 = c
    · have hwf : (Lit.int .i64 V).wf = true := wfI64 (by omega)
      have hFv : idv ∉ [F] := by have := HB.out.2.2.2.2.2.2.2.2.2.2; simp; omega
      have hFv2 : F ∉ [idv] := by have := HB.out.2.2.2.2.2.2.2.2.2.2; simp; omega
      by_cases hmem : V ∈ P
      · obtain ⟨m, hlook⟩ := look_mem P V 0 hmem
        have hmet : metP P V = P := by unfold metP; rw [if_pos hmem]
        have HE0 := Lib.hid (And.intro hvv (And.intro hin (And.intro hown (And.intro hmet hlook))))
        clear hmem hmet hvv
        go_enter Try.func127, Try.ntmps127
        go_wp2_with fail
        refine wp_calmN ?_
        refine wp_region_till 6 (fun W => W.cell? ⟨r, 0, none⟩ = some (.pointer (some ⟨ph, 0, none⟩))) (by kernel_rfl) ?_
        refine wpTill_free 0 (v := ?_) rfl (by kernel_rfl) (by kernel_rfl) (by kernel_rfl) (by kernel_rfl) (fun _ _ _ h => h) rfl (fun _ => HS) ?_ ?_
        rotate_left 1
        · intro w; go_simp; try with_reducible rfl
        try simp only [Act.put, List.setIfInBounds_toArray, List.set_cons_zero, List.set_cons_succ, List.getElem_toArray, List.getElem_cons_succ, List.getElem_cons_zero]
        refine wpTill_free 2 (v := ?_) rfl (by kernel_rfl) (by kernel_rfl) (by kernel_rfl) (by kernel_rfl) (fun _ _ _ h => h) rfl (fun _ => HS) ?_ ?_
        rotate_left 1
        · intro w; go_simp; try with_reducible rfl
        try simp only [Act.put, List.setIfInBounds_toArray, List.set_cons_zero, List.set_cons_succ, List.getElem_toArray, List.getElem_cons_succ, List.getElem_cons_zero]
        refine wpTill_free 3 (v := ?_) rfl (by kernel_rfl) (by kernel_rfl) (by kernel_rfl) (by kernel_rfl) (fun _ _ _ h => h) rfl (fun _ => HS) ?_ ?_
        rotate_left 1
        · intro w; go_simp; try with_reducible rfl
        try simp only [Act.put, List.setIfInBounds_toArray, List.set_cons_zero, List.set_cons_succ, List.getElem_toArray, List.getElem_cons_succ, List.getElem_cons_zero]
        refine wpTill_free 4 (v := ?_) rfl (by kernel_rfl) (by kernel_rfl) (by kernel_rfl) (by kernel_rfl) (fun _ _ _ h => h) rfl (fun _ => HS) ?_ ?_
        rotate_left 1
        · intro w; go_simp; try with_reducible rfl
        try simp only [Act.put, List.setIfInBounds_toArray, List.set_cons_zero, List.set_cons_succ, List.getElem_toArray, List.getElem_cons_succ, List.getElem_cons_zero]
        refine wpTill_take 5 (v := ?_) rfl (by kernel_rfl) (by kernel_rfl) (by kernel_rfl) (by kernel_rfl) (by kernel_rfl) (fun _ _ _ h => h) rfl HS ?_ ?_
        rotate_left 1
        · intro w hSw; go_split_ands; go_simp; try with_reducible rfl
        try simp only [Act.put, List.setIfInBounds_toArray, List.set_cons_zero, List.set_cons_succ, List.getElem_toArray, List.getElem_cons_succ, List.getElem_cons_zero]
        refine wpTill_one 1 rfl (by kernel_rfl) rfl (fun K hK => ?_)
        go_simp
        refine (HB.out.2.2.2.2.2.1 _).mono ?_
        rintro e w' ⟨rfl, rfl⟩
        refine hK.out _ _ (fun _ => HS) ?_
        clear hK K
        try simp only [Act.put, List.setIfInBounds_toArray, List.set_cons_zero, List.set_cons_succ, List.getElem_toArray, List.getElem_cons_succ, List.getElem_cons_zero]
        refine wpTill_one 6 rfl (by kernel_rfl) rfl (fun K hK => ?_)
        go_simp
        refine Calls.mono HLEN.out ?_
        rintro e w' ⟨rfl, n5, rfl⟩
        refine hK.out _ _ (Till.gone (by kernel_rfl)) ?_
        clear hK K
        try simp only [Act.put, List.setIfInBounds_toArray, List.set_cons_zero, List.set_cons_succ, List.getElem_toArray, List.getElem_cons_succ, List.getElem_cons_zero]
        refine wpTill_free 7 (v := ?_) rfl (by kernel_rfl) (by kernel_rfl) (by kernel_rfl) (by kernel_rfl) (fun _ _ _ h => h) rfl (Till.gone (by kernel_rfl)) ?_ ?_
        rotate_left 1
        · intro w; go_simp; try with_reducible rfl
        try simp only [Act.put, List.setIfInBounds_toArray, List.set_cons_zero, List.set_cons_succ, List.getElem_toArray, List.getElem_cons_succ, List.getElem_cons_zero]
        refine wpTill_free 8 (v := ?_) rfl (by kernel_rfl) (by kernel_rfl) (by kernel_rfl) (by kernel_rfl) (fun _ _ _ h => h) rfl (Till.gone (by kernel_rfl)) ?_ ?_
        rotate_left 1
        · intro w; go_simp; try with_reducible rfl
        try simp only [Act.put, List.setIfInBounds_toArray, List.set_cons_zero, List.set_cons_succ, List.getElem_toArray, List.getElem_cons_succ, List.getElem_cons_zero]
        refine wpTill_done (by kernel_rfl) ?_ _
        have xd := (Ext.refl o1 [] W1).drew.drewN n5
        have kZ5 : Blk o1 F (W1.drew.drewN n5) w.heap.size [.int .i64 0, .string { data := #[] }, .int .i64 0, .int .u64 0, .int .u64 0, .slice none 0 0] 25 := HB.out.2.2.2.1.keep xd (by simp)
        have x5 : Ext own o1 [idv] w (W1.drew.drewN n5) := HB.out.2.2.2.2.1.trans (xd.mono (by simp))
        have hM5 : RM o1 idv (W1.drew.drewN n5) pm (numV P 0) := HB.out.2.2.1.keep xd (by simp)
        have hb5 : RB o1 idr (W1.drew.drewN n5) r ph pa pm k := Blk.keep HB.out.1 xd (by simp)
        have hh5 : HP o1 idh (W1.drew.drewN n5) ph most l := HB.out.2.1.keep xd (by simp)
        clear HS xd
        generalize W1.drew.drewN n5 = W5 at *
        have c0 := Blk.cell hb5 0 rfl
        have c2 := Blk.cell hb5 2 rfl
        have hget := fun (q : World) (h : HP o1 idh q ph most l) => (by have z := get_in o1 idh ph most V l q h hV0 hin; rw [hown] at z; exact z : Calls Try.prog 36 #[.pointer (some ⟨ph, 0, none⟩), .int .i64 V] q (Quiet q (.tuple #[.int .u64 c, .bool true])))
        have HG := Lib.hid (hget W5 hh5)
        have H5 := Lib.hid (And.intro kZ5 (And.intro x5 (And.intro hM5 hb5)))
        clear hget kZ5 x5 hM5 hb5 hh5
        go_wp2_with (first | (go_at_call 111; refine (HB.out.2.2.2.2.2.1 _).mono ?_; rintro e w9 ⟨rfl, hw9⟩; rw [hw9]; clear hw9) | (go_at_call 36; refine Calls.mono HG.out ?_; rintro e w9 ⟨rfl, n6, rfl⟩; have xd := (Ext.refl o1 [] W5).drewN n6; have kZ6 := H5.out.1.keep xd (by simp); have x6 := H5.out.2.1.trans (xd.mono (jds := [idv]) (by simp)); have hM6 : RM o1 idv (W5.drewN n6) pm (numV P 0) := H5.out.2.2.1.keep xd (by simp); have b0 := kZ6.cell 0 rfl; have b1 := kZ6.cell 1 rfl; have b2 := kZ6.cell 2 rfl; have b3 := kZ6.cell 3 rfl; have b4 := kZ6.cell 4 rfl; have b5 := kZ6.cell 5 rfl; have bf0 := kZ6.free 0; have bf1 := kZ6.free 1; have bf2 := kZ6.free 2; have bf3 := kZ6.free 3; have bf4 := kZ6.free 4; have bf5 := kZ6.free 5; have hlk := hM6.look_ok (t := 71) Try.underlying71 Try.underlying3 Try.underlying2 (zero_i64 _) V hwf; rw [hlook] at hlk; simp only [Option.getD_some, Option.isSome_some, Option.getD_none, Option.isSome_none] at hlk))
        have HE := Lib.hid (store_resI (v0 := .int .i64 1) (v1 := .string { data := #[] }) (v2 := .int .i64 m) (v3 := .int .u64 0) (v4 := .int .u64 0) (v5 := .slice none 0 0) x6 (Nat.le_refl _) kZ6)
        (try simp only [Exit.inBlock, Exit.then])
        refine bodyPost_ret (v := .tuple #[.agg #[.int .i64 1, .string ByteArray.empty, .int .i64 m, .int .u64 0, .int .u64 0, .slice none 0 0], .int .i64 0]) ?_ rfl ?_
        · rw [results_cell_tmp rfl]
          have kk := HE.out.2.2
          have z0 := kk.cell 0 rfl
          have z1 := kk.cell 1 rfl
          have z2 := kk.cell 2 rfl
          have z3 := kk.cell 3 rfl
          have z4 := kk.cell 4 rfl
          have z5 := kk.cell 5 rfl
          go_simp
          try rfl
        · obtain ⟨q1, q2, q3, q4, q5⟩ := HE0.out
          refine ⟨o1, HE.out.1, VarEnd.yes (by rw [q1]; exact ⟨q2, q3⟩) (by rw [q1, q4, q5]; rfl) ?_⟩
          rw [q1, q4]
          exact hM6.keep HE.out.2.1 hFv
      · have hlook := numV_none P V 0 hmem
        have hmet : metP P V = P ++ [V] := by unfold metP; rw [if_neg hmem]
        have hP := HB.out.2.2.2.2.2.2.2.2.2.1
        have hwfP : (Lit.int .i64 (P.length : Int)).wf = true := wfI64 (by omega)
        have hlen9 : (numV P 0).length < 1000000000 := by rw [numV_length]; omega
        have hnv : numV P 0 ++ [(V, (P.length : Int))] = numV (P ++ [V]) 0 := by rw [numV_append]; simp
        have hl2 : look (numV (P ++ [V]) 0) V = some (P.length : Int) := by rw [← hnv, look_new hlook]
        have HE0 := Lib.hid (And.intro hvv (And.intro hin (And.intro hown (And.intro hmet (And.intro hnv hl2)))))
        clear hmem hmet hvv hP hnv hl2
        go_enter Try.func127, Try.ntmps127
        go_wp2_with fail
        refine wp_calmN ?_
        refine wp_region_till 6 (fun W => W.cell? ⟨r, 0, none⟩ = some (.pointer (some ⟨ph, 0, none⟩))) (by kernel_rfl) ?_
        refine wpTill_free 0 (v := ?_) rfl (by kernel_rfl) (by kernel_rfl) (by kernel_rfl) (by kernel_rfl) (fun _ _ _ h => h) rfl (fun _ => HS) ?_ ?_
        rotate_left 1
        · intro w; go_simp; try with_reducible rfl
        try simp only [Act.put, List.setIfInBounds_toArray, List.set_cons_zero, List.set_cons_succ, List.getElem_toArray, List.getElem_cons_succ, List.getElem_cons_zero]
        refine wpTill_free 2 (v := ?_) rfl (by kernel_rfl) (by kernel_rfl) (by kernel_rfl) (by kernel_rfl) (fun _ _ _ h => h) rfl (fun _ => HS) ?_ ?_
        rotate_left 1
        · intro w; go_simp; try with_reducible rfl
        try simp only [Act.put, List.setIfInBounds_toArray, List.set_cons_zero, List.set_cons_succ, List.getElem_toArray, List.getElem_cons_succ, List.getElem_cons_zero]
        refine wpTill_free 3 (v := ?_) rfl (by kernel_rfl) (by kernel_rfl) (by kernel_rfl) (by kernel_rfl) (fun _ _ _ h => h) rfl (fun _ => HS) ?_ ?_
        rotate_left 1
        · intro w; go_simp; try with_reducible rfl
        try simp only [Act.put, List.setIfInBounds_toArray, List.set_cons_zero, List.set_cons_succ, List.getElem_toArray, List.getElem_cons_succ, List.getElem_cons_zero]
        refine wpTill_free 4 (v := ?_) rfl (by kernel_rfl) (by kernel_rfl) (by kernel_rfl) (by kernel_rfl) (fun _ _ _ h => h) rfl (fun _ => HS) ?_ ?_
        rotate_left 1
        · intro w; go_simp; try with_reducible rfl
        try simp only [Act.put, List.setIfInBounds_toArray, List.set_cons_zero, List.set_cons_succ, List.getElem_toArray, List.getElem_cons_succ, List.getElem_cons_zero]
        refine wpTill_take 5 (v := ?_) rfl (by kernel_rfl) (by kernel_rfl) (by kernel_rfl) (by kernel_rfl) (by kernel_rfl) (fun _ _ _ h => h) rfl HS ?_ ?_
        rotate_left 1
        · intro w hSw; go_split_ands; go_simp; try with_reducible rfl
        try simp only [Act.put, List.setIfInBounds_toArray, List.set_cons_zero, List.set_cons_succ, List.getElem_toArray, List.getElem_cons_succ, List.getElem_cons_zero]
        refine wpTill_one 1 rfl (by kernel_rfl) rfl (fun K hK => ?_)
        go_simp
        refine (HB.out.2.2.2.2.2.1 _).mono ?_
        rintro e w' ⟨rfl, rfl⟩
        refine hK.out _ _ (fun _ => HS) ?_
        clear hK K
        try simp only [Act.put, List.setIfInBounds_toArray, List.set_cons_zero, List.set_cons_succ, List.getElem_toArray, List.getElem_cons_succ, List.getElem_cons_zero]
        refine wpTill_one 6 rfl (by kernel_rfl) rfl (fun K hK => ?_)
        go_simp
        refine Calls.mono HLEN.out ?_
        rintro e w' ⟨rfl, n5, rfl⟩
        refine hK.out _ _ (Till.gone (by kernel_rfl)) ?_
        clear hK K
        try simp only [Act.put, List.setIfInBounds_toArray, List.set_cons_zero, List.set_cons_succ, List.getElem_toArray, List.getElem_cons_succ, List.getElem_cons_zero]
        refine wpTill_free 7 (v := ?_) rfl (by kernel_rfl) (by kernel_rfl) (by kernel_rfl) (by kernel_rfl) (fun _ _ _ h => h) rfl (Till.gone (by kernel_rfl)) ?_ ?_
        rotate_left 1
        · intro w; go_simp; try with_reducible rfl
        try simp only [Act.put, List.setIfInBounds_toArray, List.set_cons_zero, List.set_cons_succ, List.getElem_toArray, List.getElem_cons_succ, List.getElem_cons_zero]
        refine wpTill_free 8 (v := ?_) rfl (by kernel_rfl) (by kernel_rfl) (by kernel_rfl) (by kernel_rfl) (fun _ _ _ h => h) rfl (Till.gone (by kernel_rfl)) ?_ ?_
        rotate_left 1
        · intro w; go_simp; try with_reducible rfl
        try simp only [Act.put, List.setIfInBounds_toArray, List.set_cons_zero, List.set_cons_succ, List.getElem_toArray, List.getElem_cons_succ, List.getElem_cons_zero]
        refine wpTill_done (by kernel_rfl) ?_ _
        have xd := (Ext.refl o1 [] W1).drew.drewN n5
        have kZ5 : Blk o1 F (W1.drew.drewN n5) w.heap.size [.int .i64 0, .string { data := #[] }, .int .i64 0, .int .u64 0, .int .u64 0, .slice none 0 0] 25 := HB.out.2.2.2.1.keep xd (by simp)
        have x5 : Ext own o1 [idv] w (W1.drew.drewN n5) := HB.out.2.2.2.2.1.trans (xd.mono (by simp))
        have hM5 : RM o1 idv (W1.drew.drewN n5) pm (numV P 0) := HB.out.2.2.1.keep xd (by simp)
        have hb5 : RB o1 idr (W1.drew.drewN n5) r ph pa pm k := Blk.keep HB.out.1 xd (by simp)
        have hh5 : HP o1 idh (W1.drew.drewN n5) ph most l := HB.out.2.1.keep xd (by simp)
        clear HS xd
        generalize W1.drew.drewN n5 = W5 at *
        have c0 := Blk.cell hb5 0 rfl
        have c2 := Blk.cell hb5 2 rfl
        have hget := fun (q : World) (h : HP o1 idh q ph most l) => (by have z := get_in o1 idh ph most V l q h hV0 hin; rw [hown] at z; exact z : Calls Try.prog 36 #[.pointer (some ⟨ph, 0, none⟩), .int .i64 V] q (Quiet q (.tuple #[.int .u64 c, .bool true])))
        have HG := Lib.hid (hget W5 hh5)
        have H5 := Lib.hid (And.intro kZ5 (And.intro x5 (And.intro hM5 hb5)))
        clear hget kZ5 x5 hM5 hb5 hh5
        go_wp2_with (first | (go_at_call 111; refine (HB.out.2.2.2.2.2.1 _).mono ?_; rintro e w9 ⟨rfl, hw9⟩; rw [hw9]; clear hw9) | (go_at_call 36; refine Calls.mono HG.out ?_; rintro e w9 ⟨rfl, n6, rfl⟩; have xd := (Ext.refl o1 [] W5).drewN n6; have kZ6 := H5.out.1.keep xd (by simp); have x6 := H5.out.2.1.trans (xd.mono (jds := [idv]) (by simp)); have hM6 : RM o1 idv (W5.drewN n6) pm (numV P 0) := H5.out.2.2.1.keep xd (by simp); have HKK := Lib.hid kZ6; have hlk := hM6.look_ok (t := 71) Try.underlying71 Try.underlying3 Try.underlying2 (zero_i64 _) V hwf; rw [hlook] at hlk; simp only [Option.getD_some, Option.isSome_some, Option.getD_none, Option.isSome_none] at hlk; obtain ⟨w7, hput, hM7, x7, g7⟩ := MV.put hM6 (t := 71) Try.underlying71 Try.underlying3 Try.underlying2 V (P.length : Int) hwf hwfP hlook hlen9; have kZ7 := kZ6.keep x7 hFv2; have x67 := x6.trans x7; have hln := hM6.len (t := 71) Try.underlying71; rw [numV_length] at hln; have HM7 := Lib.hid hM7; clear hM7 hM6 kZ6; have b0 := kZ7.cell 0 rfl; have b1 := kZ7.cell 1 rfl; have b2 := kZ7.cell 2 rfl; have b3 := kZ7.cell 3 rfl; have b4 := kZ7.cell 4 rfl; have b5 := kZ7.cell 5 rfl; have bf0 := kZ7.free 0; have bf1 := kZ7.free 1; have bf2 := kZ7.free 2; have bf3 := kZ7.free 3; have bf4 := kZ7.free 4; have bf5 := kZ7.free 5))
        have HE := Lib.hid (store_resI (v0 := .int .i64 1) (v1 := .string { data := #[] }) (v2 := .int .i64 P.length) (v3 := .int .u64 0) (v4 := .int .u64 0) (v5 := .slice none 0 0) x67 (Nat.le_refl _) kZ7)
        (try simp only [Exit.inBlock, Exit.then])
        refine bodyPost_ret (v := .tuple #[.agg #[.int .i64 1, .string ByteArray.empty, .int .i64 P.length, .int .u64 0, .int .u64 0, .slice none 0 0], .int .i64 0]) ?_ rfl ?_
        · rw [results_cell_tmp rfl]
          have kk := HE.out.2.2
          have z0 := kk.cell 0 rfl
          have z1 := kk.cell 1 rfl
          have z2 := kk.cell 2 rfl
          have z3 := kk.cell 3 rfl
          have z4 := kk.cell 4 rfl
          have z5 := kk.cell 5 rfl
          go_simp
          try rfl
        · obtain ⟨q1, q2, q3, q4, q5, q6⟩ := HE0.out
          refine ⟨o1, HE.out.1, VarEnd.yes (by rw [q1]; exact ⟨q2, q3⟩) (by rw [q1, q4, q6]; rfl) ?_⟩
          rw [q1, q4, ← q5]
          exact HM7.out.keep HE.out.2.1 hFv
    · have hown' : (l.getD V.toNat 0 == c) = false := by simpa using hown
      have HN := Lib.hid hown
      generalize hgy : l.getD V.toNat 0 = gy at *
      clear hown
      go_enter Try.func127, Try.ntmps127
      go_wp2_with fail
      refine wp_calmN ?_
      refine wp_region_till 6 (fun W => W.cell? ⟨r, 0, none⟩ = some (.pointer (some ⟨ph, 0, none⟩))) (by kernel_rfl) ?_
      refine wpTill_free 0 (v := ?_) rfl (by kernel_rfl) (by kernel_rfl) (by kernel_rfl) (by kernel_rfl) (fun _ _ _ h => h) rfl (fun _ => HS) ?_ ?_
      rotate_left 1
      · intro w; go_simp; try with_reducible rfl
      try simp only [Act.put, List.setIfInBounds_toArray, List.set_cons_zero, List.set_cons_succ, List.getElem_toArray, List.getElem_cons_succ, List.getElem_cons_zero]
      refine wpTill_free 2 (v := ?_) rfl (by kernel_rfl) (by kernel_rfl) (by kernel_rfl) (by kernel_rfl) (fun _ _ _ h => h) rfl (fun _ => HS) ?_ ?_
      rotate_left 1
      · intro w; go_simp; try with_reducible rfl
      try simp only [Act.put, List.setIfInBounds_toArray, List.set_cons_zero, List.set_cons_succ, List.getElem_toArray, List.getElem_cons_succ, List.getElem_cons_zero]
      refine wpTill_free 3 (v := ?_) rfl (by kernel_rfl) (by kernel_rfl) (by kernel_rfl) (by kernel_rfl) (fun _ _ _ h => h) rfl (fun _ => HS) ?_ ?_
      rotate_left 1
      · intro w; go_simp; try with_reducible rfl
      try simp only [Act.put, List.setIfInBounds_toArray, List.set_cons_zero, List.set_cons_succ, List.getElem_toArray, List.getElem_cons_succ, List.getElem_cons_zero]
      refine wpTill_free 4 (v := ?_) rfl (by kernel_rfl) (by kernel_rfl) (by kernel_rfl) (by kernel_rfl) (fun _ _ _ h => h) rfl (fun _ => HS) ?_ ?_
      rotate_left 1
      · intro w; go_simp; try with_reducible rfl
      try simp only [Act.put, List.setIfInBounds_toArray, List.set_cons_zero, List.set_cons_succ, List.getElem_toArray, List.getElem_cons_succ, List.getElem_cons_zero]
      refine wpTill_take 5 (v := ?_) rfl (by kernel_rfl) (by kernel_rfl) (by kernel_rfl) (by kernel_rfl) (by kernel_rfl) (fun _ _ _ h => h) rfl HS ?_ ?_
      rotate_left 1
      · intro w hSw; go_split_ands; go_simp; try with_reducible rfl
      try simp only [Act.put, List.setIfInBounds_toArray, List.set_cons_zero, List.set_cons_succ, List.getElem_toArray, List.getElem_cons_succ, List.getElem_cons_zero]
      refine wpTill_one 1 rfl (by kernel_rfl) rfl (fun K hK => ?_)
      go_simp
      refine (HB.out.2.2.2.2.2.1 _).mono ?_
      rintro e w' ⟨rfl, rfl⟩
      refine hK.out _ _ (fun _ => HS) ?_
      clear hK K
      try simp only [Act.put, List.setIfInBounds_toArray, List.set_cons_zero, List.set_cons_succ, List.getElem_toArray, List.getElem_cons_succ, List.getElem_cons_zero]
      refine wpTill_one 6 rfl (by kernel_rfl) rfl (fun K hK => ?_)
      go_simp
      refine Calls.mono HLEN.out ?_
      rintro e w' ⟨rfl, n5, rfl⟩
      refine hK.out _ _ (Till.gone (by kernel_rfl)) ?_
      clear hK K
      try simp only [Act.put, List.setIfInBounds_toArray, List.set_cons_zero, List.set_cons_succ, List.getElem_toArray, List.getElem_cons_succ, List.getElem_cons_zero]
      refine wpTill_free 7 (v := ?_) rfl (by kernel_rfl) (by kernel_rfl) (by kernel_rfl) (by kernel_rfl) (fun _ _ _ h => h) rfl (Till.gone (by kernel_rfl)) ?_ ?_
      rotate_left 1
      · intro w; go_simp; try with_reducible rfl
      try simp only [Act.put, List.setIfInBounds_toArray, List.set_cons_zero, List.set_cons_succ, List.getElem_toArray, List.getElem_cons_succ, List.getElem_cons_zero]
      refine wpTill_free 8 (v := ?_) rfl (by kernel_rfl) (by kernel_rfl) (by kernel_rfl) (by kernel_rfl) (fun _ _ _ h => h) rfl (Till.gone (by kernel_rfl)) ?_ ?_
      rotate_left 1
      · intro w; go_simp; try with_reducible rfl
      try simp only [Act.put, List.setIfInBounds_toArray, List.set_cons_zero, List.set_cons_succ, List.getElem_toArray, List.getElem_cons_succ, List.getElem_cons_zero]
      refine wpTill_done (by kernel_rfl) ?_ _
      have xd := (Ext.refl o1 [] W1).drew.drewN n5
      have kZ5 : Blk o1 F (W1.drew.drewN n5) w.heap.size [.int .i64 0, .string { data := #[] }, .int .i64 0, .int .u64 0, .int .u64 0, .slice none 0 0] 25 := HB.out.2.2.2.1.keep xd (by simp)
      have x5 : Ext own o1 [idv] w (W1.drew.drewN n5) := HB.out.2.2.2.2.1.trans (xd.mono (by simp))
      have hM5 : RM o1 idv (W1.drew.drewN n5) pm (numV P 0) := HB.out.2.2.1.keep xd (by simp)
      have hb5 : RB o1 idr (W1.drew.drewN n5) r ph pa pm k := Blk.keep HB.out.1 xd (by simp)
      have hh5 : HP o1 idh (W1.drew.drewN n5) ph most l := HB.out.2.1.keep xd (by simp)
      clear HS xd
      generalize W1.drew.drewN n5 = W5 at *
      have c0 := Blk.cell hb5 0 rfl
      have c2 := Blk.cell hb5 2 rfl
      have hget := fun (q : World) (h : HP o1 idh q ph most l) => (by have z := get_in o1 idh ph most V l q h hV0 hin; rw [hgy] at z; exact z : Calls Try.prog 36 #[.pointer (some ⟨ph, 0, none⟩), .int .i64 V] q (Quiet q (.tuple #[.int .u64 gy, .bool true])))
      have HG := Lib.hid (hget W5 hh5)
      have H5 := Lib.hid (And.intro kZ5 (And.intro x5 (And.intro hM5 hb5)))
      clear hget kZ5 x5 hM5 hb5 hh5
      go_wp2_with (first | (go_at_call 111; refine (HB.out.2.2.2.2.2.1 _).mono ?_; rintro e w9 ⟨rfl, hw9⟩; rw [hw9]; clear hw9) | (go_at_call 36; refine Calls.mono HG.out ?_; rintro e w9 ⟨rfl, n6, rfl⟩; have xd := (Ext.refl o1 [] W5).drewN n6; have kZ6 := H5.out.1.keep xd (by simp); have x6 := H5.out.2.1.trans (xd.mono (jds := [idv]) (by simp)); have hM6 : RM o1 idv (W5.drewN n6) pm (numV P 0) := H5.out.2.2.1.keep xd (by simp); have b0 := kZ6.cell 0 rfl; have b1 := kZ6.cell 1 rfl; have b2 := kZ6.cell 2 rfl; have b3 := kZ6.cell 3 rfl; have b4 := kZ6.cell 4 rfl; have b5 := kZ6.cell 5 rfl; have bf0 := kZ6.free 0; have bf1 := kZ6.free 1; have bf2 := kZ6.free 2; have bf3 := kZ6.free 3; have bf4 := kZ6.free 4; have bf5 := kZ6.free 5))
      have HE := Lib.hid (store_resI (v0 := .int .i64 0) (v1 := .string { data := #[] }) (v2 := .int .i64 0) (v3 := .int .u64 0) (v4 := .int .u64 0) (v5 := .slice none 0 0) x6 (Nat.le_refl _) kZ6)
      (try simp only [Exit.inBlock, Exit.then])
      refine bodyPost_ret (v := .tuple #[.agg #[.int .i64 0, .string ByteArray.empty, .int .i64 0, .int .u64 0, .int .u64 0, .slice none 0 0], .int .i64 2]) ?_ rfl ?_
      · rw [results_cell_tmp rfl]
        have kk := HE.out.2.2
        have z0 := kk.cell 0 rfl
        have z1 := kk.cell 1 rfl
        have z2 := kk.cell 2 rfl
        have z3 := kk.cell 3 rfl
        have z4 := kk.cell 4 rfl
        have z5 := kk.cell 5 rfl
        go_simp
        try rfl
      · have hFv : idv ∉ [F] := by have := HB.out.2.2.2.2.2.2.2.2.2.2; simp; omega
        refine ⟨o1, HE.out.1, VarEnd.no (fun h => ?_) (hM6.keep HE.out.2.1 hFv)⟩
        rw [hvv, hgy] at h
        exact HN.out h.2
  · have hin' : (l.length : Int) ≤ V := by omega
    go_enter Try.func127, Try.ntmps127
    go_wp2_with fail
    refine wp_calmN ?_
    refine wp_region_till 6 (fun W => W.cell? ⟨r, 0, none⟩ = some (.pointer (some ⟨ph, 0, none⟩))) (by kernel_rfl) ?_
    refine wpTill_free 0 (v := ?_) rfl (by kernel_rfl) (by kernel_rfl) (by kernel_rfl) (by kernel_rfl) (fun _ _ _ h => h) rfl (fun _ => HS) ?_ ?_
    rotate_left 1
    · intro w; go_simp; try with_reducible rfl
    try simp only [Act.put, List.setIfInBounds_toArray, List.set_cons_zero, List.set_cons_succ, List.getElem_toArray, List.getElem_cons_succ, List.getElem_cons_zero]
    refine wpTill_free 2 (v := ?_) rfl (by kernel_rfl) (by kernel_rfl) (by kernel_rfl) (by kernel_rfl) (fun _ _ _ h => h) rfl (fun _ => HS) ?_ ?_
    rotate_left 1
    · intro w; go_simp; try with_reducible rfl
    try simp only [Act.put, List.setIfInBounds_toArray, List.set_cons_zero, List.set_cons_succ, List.getElem_toArray, List.getElem_cons_succ, List.getElem_cons_zero]
    refine wpTill_free 3 (v := ?_) rfl (by kernel_rfl) (by kernel_rfl) (by kernel_rfl) (by kernel_rfl) (fun _ _ _ h => h) rfl (fun _ => HS) ?_ ?_
    rotate_left 1
    · intro w; go_simp; try with_reducible rfl
    try simp only [Act.put, List.setIfInBounds_toArray, List.set_cons_zero, List.set_cons_succ, List.getElem_toArray, List.getElem_cons_succ, List.getElem_cons_zero]
    refine wpTill_free 4 (v := ?_) rfl (by kernel_rfl) (by kernel_rfl) (by kernel_rfl) (by kernel_rfl) (fun _ _ _ h => h) rfl (fun _ => HS) ?_ ?_
    rotate_left 1
    · intro w; go_simp; try with_reducible rfl
    try simp only [Act.put, List.setIfInBounds_toArray, List.set_cons_zero, List.set_cons_succ, List.getElem_toArray, List.getElem_cons_succ, List.getElem_cons_zero]
    refine wpTill_take 5 (v := ?_) rfl (by kernel_rfl) (by kernel_rfl) (by kernel_rfl) (by kernel_rfl) (by kernel_rfl) (fun _ _ _ h => h) rfl HS ?_ ?_
    rotate_left 1
    · intro w hSw; go_split_ands; go_simp; try with_reducible rfl
    try simp only [Act.put, List.setIfInBounds_toArray, List.set_cons_zero, List.set_cons_succ, List.getElem_toArray, List.getElem_cons_succ, List.getElem_cons_zero]
    refine wpTill_one 1 rfl (by kernel_rfl) rfl (fun K hK => ?_)
    go_simp
    refine (HB.out.2.2.2.2.2.1 _).mono ?_
    rintro e w' ⟨rfl, rfl⟩
    refine hK.out _ _ (fun _ => HS) ?_
    clear hK K
    try simp only [Act.put, List.setIfInBounds_toArray, List.set_cons_zero, List.set_cons_succ, List.getElem_toArray, List.getElem_cons_succ, List.getElem_cons_zero]
    refine wpTill_one 6 rfl (by kernel_rfl) rfl (fun K hK => ?_)
    go_simp
    refine Calls.mono HLEN.out ?_
    rintro e w' ⟨rfl, n5, rfl⟩
    refine hK.out _ _ (Till.gone (by kernel_rfl)) ?_
    clear hK K
    try simp only [Act.put, List.setIfInBounds_toArray, List.set_cons_zero, List.set_cons_succ, List.getElem_toArray, List.getElem_cons_succ, List.getElem_cons_zero]
    refine wpTill_free 7 (v := ?_) rfl (by kernel_rfl) (by kernel_rfl) (by kernel_rfl) (by kernel_rfl) (fun _ _ _ h => h) rfl (Till.gone (by kernel_rfl)) ?_ ?_
    rotate_left 1
    · intro w; go_simp; try with_reducible rfl
    try simp only [Act.put, List.setIfInBounds_toArray, List.set_cons_zero, List.set_cons_succ, List.getElem_toArray, List.getElem_cons_succ, List.getElem_cons_zero]
    refine wpTill_free 8 (v := ?_) rfl (by kernel_rfl) (by kernel_rfl) (by kernel_rfl) (by kernel_rfl) (fun _ _ _ h => h) rfl (Till.gone (by kernel_rfl)) ?_ ?_
    rotate_left 1
    · intro w; go_simp; try with_reducible rfl
    try simp only [Act.put, List.setIfInBounds_toArray, List.set_cons_zero, List.set_cons_succ, List.getElem_toArray, List.getElem_cons_succ, List.getElem_cons_zero]
    refine wpTill_done (by kernel_rfl) ?_ _
    have kZ5 : Blk o1 F (W1.drew.drewN n5) w.heap.size [.int .i64 0, .string { data := #[] }, .int .i64 0, .int .u64 0, .int .u64 0, .slice none 0 0] 25 := HB.out.2.2.2.1.keep ((Ext.refl o1 [] W1).drew.drewN n5) (by simp)
    have x5 : Ext own o1 [idv] w (W1.drew.drewN n5) := HB.out.2.2.2.2.1.trans ((Ext.refl o1 [idv] W1).drew.drewN n5)
    have hM5 : RM o1 idv (W1.drew.drewN n5) pm (numV P 0) := HB.out.2.2.1.keep ((Ext.refl o1 [] W1).drew.drewN n5) (by simp)
    clear HS
    generalize W1.drew.drewN n5 = W5 at *
    have b0 := kZ5.cell 0 rfl; have b1 := kZ5.cell 1 rfl; have b2 := kZ5.cell 2 rfl; have b3 := kZ5.cell 3 rfl; have b4 := kZ5.cell 4 rfl; have b5 := kZ5.cell 5 rfl; have bf0 := kZ5.free 0; have bf1 := kZ5.free 1; have bf2 := kZ5.free 2; have bf3 := kZ5.free 3; have bf4 := kZ5.free 4; have bf5 := kZ5.free 5
    have HE := Lib.hid (store_resI (v0 := .int .i64 0) (v1 := .string { data := #[] }) (v2 := .int .i64 0) (v3 := .int .u64 0) (v4 := .int .u64 0) (v5 := .slice none 0 0) x5 (Nat.le_refl _) kZ5)
    have HM5 := Lib.hid hM5
    clear kZ5 x5 hM5
    go_wp2_with fail
    (try simp only [Exit.inBlock, Exit.then])
    refine bodyPost_ret (v := .tuple #[.agg #[.int .i64 0, .string ByteArray.empty, .int .i64 0, .int .u64 0, .int .u64 0, .slice none 0 0], .int .i64 2]) ?_ rfl ?_
    · rw [results_cell_tmp rfl]
      have kk := HE.out.2.2
      have z0 := kk.cell 0 rfl
      have z1 := kk.cell 1 rfl
      have z2 := kk.cell 2 rfl
      have z3 := kk.cell 3 rfl
      have z4 := kk.cell 4 rfl
      have z5 := kk.cell 5 rfl
      go_simp
      try rfl
    · have hFv : idv ∉ [F] := by have := HB.out.2.2.2.2.2.2.2.2.2.2; simp; omega
      refine ⟨o1, HE.out.1, VarEnd.no (fun h => ?_) (HM5.out.keep HE.out.2.1 hFv)⟩
      have := HB.out.2.2.2.2.2.2.1
      rw [this] at h
      omega

end Go.Proofs.Ytlmcfclonncgbaa
