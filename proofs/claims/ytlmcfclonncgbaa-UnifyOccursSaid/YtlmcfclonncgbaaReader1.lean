/- The reader's words (package store): so many words at a place. -/
import Derived.Test.YtlmcfclonncgbaaPk7
import Derived.Test.YtlmcfclonncgbaaPk3
import Derived.Test.YtlmcfclonncgbaaPk4
namespace Go.Proofs.Ytlmcfclonncgbaa
open Go.RowKit
set_option linter.unusedVariables false
set_option linter.unusedSimpArgs false

/-- The reader's block. -/
def RB (own : Nat → Nat) (idr : Nat) (w : World) (r ph pa pm n : Nat) : Prop := Blk own idr w r [.pointer (some ⟨ph, 0, none⟩), .pointer (some ⟨pa, 0, none⟩), .map (some pm), .int .i64 n] 139
theorem info_u64 : (Try.prog.info? 22).map (fun i => (i.zero, i.size, i.bytes)) = some (some (.int .u64 0), 1, 8) := by kernel_rfl
/-- What words answers. -/
def WordsEnd (own : Nat → Nat) (idw : Nat) (w : World) (l : List Int) (v n : Nat) (e : Ending) : Prop :=
  if v + n ≤ l.length then ∃ sl, e = .returned (.tuple #[sl, .bool true]) ∧ Row own idw w 22 1 sl n ((cellsAt l v n).map (Value.int .u64)) else e = .returned (.tuple #[.slice none 0 0, .bool false])
theorem WordsEnd.no {own : Nat → Nat} {idw : Nat} {w : World} {l : List Int} {v n : Nat} (h : ¬ v + n ≤ l.length) : WordsEnd own idw w l v n (.returned (.tuple #[.slice none 0 0, .bool false])) := by unfold WordsEnd; rw [if_neg h]
theorem WordsEnd.yes {own : Nat → Nat} {idw : Nat} {w : World} {l : List Int} {v n : Nat} {sl : Value} (h : v + n ≤ l.length) (hr : Row own idw w 22 1 sl n ((cellsAt l v n).map (Value.int .u64))) : WordsEnd own idw w l v n (.returned (.tuple #[sl, .bool true])) := by unfold WordsEnd; rw [if_pos h]; exact ⟨sl, rfl, hr⟩
theorem cellsAt_step {l : List Int} {v j : Nat} (h : v + j < l.length) : cellsAt l v j ++ [l.getD (v + j) 0] = cellsAt l v (j + 1) := by
  unfold cellsAt
  rw [List.take_add_one, List.getElem?_drop, List.getElem?_eq_getElem h]
  simp [List.getD, List.getElem?_eq_getElem h]
set_option maxHeartbeats 1600000 in
set_option maxRecDepth 100000 in
theorem dwords_any (own : Nat → Nat) (idr idh idw : Nat) (w : World) (r ph pa pm k n : Nat) (most c : Int) (l : List Int) (hb : RB own idr w r ph pa pm k) (hh : HP own idh w ph most l) (hc0 : 0 ≤ c) (hc1 : c < 18446744073709551616) (hn1 : 1 ≤ n) (hn : n ≤ 1000) (hll : l.length ≤ 1048576) (h1 : idw ≠ idr) (h2 : idw ≠ idh) :
    Calls Try.prog 131 #[.pointer (some ⟨r, 0, none⟩), .int .u64 c, .int .i64 n] w (Does own [idw] w fun own' e w' => WordsEnd own' idw w' l (c / 8).toNat n e) := by
  have HB0 := Lib.hid (And.intro hb (And.intro hh (And.intro hll (And.intro hn hn1))))
  obtain ⟨V, hV⟩ : ∃ V : Nat, c / 8 = V := ⟨(c / 8).toNat, by omega⟩
  have hVt : (c / 8).toNat = V := by omega
  rw [hVt]
  have hval : ∀ w, Calls Try.prog 111 #[.int .u64 c] w fun e w' => e = .returned (.int .u64 (V : Int)) ∧ w' = w := fun w => by rw [← hV]; exact value_any c w
  have hV61 : V < 2305843009213693952 := by omega
  have HVA := Lib.hid (And.intro hval hV61)
  clear hb hh hll hval hV hVt hc0 hc1 hV61
  go_enter Try.func131, Try.ntmps131
  go_wp2_with fail
  go_loopw [13, 8] (fun u v wr => ∃ (j : Nat) (own1 : Nat → Nat), u = .int .i64 j ∧ j ≤ n ∧ Ext own own1 [idw] w wr ∧ Row own1 idw wr 22 1 v j ((cellsAt l V j).map (Value.int .u64)) ∧ (j = 0 ∨ V + j ≤ l.length)) (fun u _ _ => n - (intOf u).toNat)
  case atStart => exact ⟨0, own, rfl, Nat.zero_le _, Ext.refl _ _ _, by unfold cellsAt; simpa using Row.nil own idw w 22 1, Or.inl rfl⟩
  case round =>
    obtain ⟨j, own1, rfl, hj, x, hr, hd⟩ := hrel
    by_cases hlt : j < n
    · have hbr := HB0.out.1.keep x (by simpa using Ne.symm h1)
      have hhr := HB0.out.2.1.keep x (by simpa using Ne.symm h2)
      have HB := Lib.hid (And.intro hbr (And.intro hhr (And.intro x (And.intro hr hd))))
      have HS : wr.drew.cell? ⟨r, 0, none⟩ = some (.pointer (some ⟨ph, 0, none⟩)) := hbr.cell 0 rfl
      clear hbr hhr x hr hd
      by_cases hbig : 1048576 < V
      · have hbd : decide ((1048576 : Int) < (V : Int)) = true := by simp; omega
        have hno : ¬ (V + n ≤ l.length) := by have := HB0.out.2.2.1; omega
        have HN := Lib.hid hno
        clear hno hbig
        go_wp2_with (go_at_call 111; refine (HVA.out.1 _).mono ?_; rintro e wr ⟨rfl, rfl⟩)
        go_ret2
        refine ⟨own1, HB.out.2.2.1, ?_⟩
        exact WordsEnd.no HN.out
      · have hbd : decide ((1048576 : Int) < (V : Int)) = false := by simp; omega
        go_wp2_with (go_at_call 111; refine (HVA.out.1 _).mono ?_; rintro e wr ⟨rfl, rfl⟩)
        have hwc : IntKind.i64.wrap (V : Int) = V := by have := HVA.out.2; rw [IntKind.wrap_i64]; omega
        have hwj : IntKind.i64.wrap ((V : Int) + (j : Int)) = (V : Int) + j := by have := HVA.out.2; rw [IntKind.wrap_i64]; omega
        by_cases hin : V + j < l.length
        · refine wp_calmN ?_
          refine wp_region_till 9 (fun W => W.cell? ⟨r, 0, none⟩ = some (.pointer (some ⟨ph, 0, none⟩))) (by kernel_rfl) ?_
          refine wpTill_free 0 (v := ?_) rfl (by kernel_rfl) (by kernel_rfl) (by kernel_rfl) (by kernel_rfl) (fun _ _ _ h => h) rfl (fun _ => HS) ?_ ?_
          rotate_left 1
          · intro w; go_simp; try with_reducible rfl
          try simp only [Act.put, List.setIfInBounds_toArray, List.set_cons_zero, List.set_cons_succ, List.getElem_toArray, List.getElem_cons_succ, List.getElem_cons_zero]
          refine wpTill_free 1 (v := ?_) rfl (by kernel_rfl) (by kernel_rfl) (by kernel_rfl) (by kernel_rfl) (fun _ _ _ h => h) rfl (fun _ => HS) ?_ ?_
          rotate_left 1
          · intro w; go_simp; try with_reducible rfl
          try simp only [Act.put, List.setIfInBounds_toArray, List.set_cons_zero, List.set_cons_succ, List.getElem_toArray, List.getElem_cons_succ, List.getElem_cons_zero]
          refine wpTill_free 2 (v := ?_) rfl (by kernel_rfl) (by kernel_rfl) (by kernel_rfl) (by kernel_rfl) (fun _ _ _ h => h) rfl (fun _ => HS) ?_ ?_
          rotate_left 1
          · intro w; go_simp; try with_reducible rfl
          try simp only [Act.put, List.setIfInBounds_toArray, List.set_cons_zero, List.set_cons_succ, List.getElem_toArray, List.getElem_cons_succ, List.getElem_cons_zero]
          refine wpTill_take 3 (v := ?_) rfl (by kernel_rfl) (by kernel_rfl) (by kernel_rfl) (by kernel_rfl) (by kernel_rfl) (fun _ _ _ h => h) rfl HS ?_ ?_
          rotate_left 1
          · intro w hSw; go_split_ands; go_simp; try with_reducible rfl
          try simp only [Act.put, List.setIfInBounds_toArray, List.set_cons_zero, List.set_cons_succ, List.getElem_toArray, List.getElem_cons_succ, List.getElem_cons_zero]
          refine wpTill_free 4 (v := ?_) rfl (by kernel_rfl) (by kernel_rfl) (by kernel_rfl) (by kernel_rfl) (fun _ _ _ h => h) rfl (fun _ => HS) ?_ ?_
          rotate_left 1
          · intro w; go_simp; try with_reducible rfl
          try simp only [Act.put, List.setIfInBounds_toArray, List.set_cons_zero, List.set_cons_succ, List.getElem_toArray, List.getElem_cons_succ, List.getElem_cons_zero]
          refine wpTill_free 7 (v := ?_) rfl (by kernel_rfl) (by kernel_rfl) (by kernel_rfl) (by kernel_rfl) (fun _ _ _ h => h) rfl (fun _ => HS) ?_ ?_
          rotate_left 1
          · intro w; go_simp; try with_reducible rfl
          try simp only [Act.put, List.setIfInBounds_toArray, List.set_cons_zero, List.set_cons_succ, List.getElem_toArray, List.getElem_cons_succ, List.getElem_cons_zero]
          refine wpTill_one 5 rfl (by kernel_rfl) rfl (fun K hK => ?_)
          go_simp
          refine (HVA.out.1 _).mono ?_
          rintro e w' ⟨rfl, rfl⟩
          refine hK.out _ _ (fun _ => HS) ?_
          clear hK K
          try simp only [Act.put, List.setIfInBounds_toArray, List.set_cons_zero, List.set_cons_succ, List.getElem_toArray, List.getElem_cons_succ, List.getElem_cons_zero]
          refine wpTill_free 6 (v := ?_) rfl (by kernel_rfl) (by kernel_rfl) (by kernel_rfl) (by kernel_rfl) (fun _ _ _ h => h) rfl (fun _ => HS) ?_ ?_
          rotate_left 1
          · intro w; go_simp; try with_reducible rfl
          try simp only [Act.put, List.setIfInBounds_toArray, List.set_cons_zero, List.set_cons_succ, List.getElem_toArray, List.getElem_cons_succ, List.getElem_cons_zero]
          refine wpTill_free 8 (v := ?_) rfl (by kernel_rfl) (by kernel_rfl) (by kernel_rfl) (by kernel_rfl) (fun _ _ _ h => h) rfl (fun _ => HS) ?_ ?_
          rotate_left 1
          · intro w; go_simp; try with_reducible rfl
          try simp only [Act.put, List.setIfInBounds_toArray, List.set_cons_zero, List.set_cons_succ, List.getElem_toArray, List.getElem_cons_succ, List.getElem_cons_zero]
          refine wpTill_one 9 rfl (by kernel_rfl) rfl (fun K hK => ?_)
          go_simp
          refine (get_in own1 idh ph most ((V : Int) + j) l _ (HB.out.2.1.keep (Ext.refl own1 [] wr).drew (by simp)) (by omega) (by omega)).mono ?_
          rintro e w' ⟨rfl, n5, rfl⟩
          refine hK.out _ _ (Till.gone (by kernel_rfl)) ?_
          clear hK K
          try simp only [Act.put, List.setIfInBounds_toArray, List.set_cons_zero, List.set_cons_succ, List.getElem_toArray, List.getElem_cons_succ, List.getElem_cons_zero]
          refine wpTill_free 10 (v := ?_) rfl (by kernel_rfl) (by kernel_rfl) (by kernel_rfl) (by kernel_rfl) (fun _ _ _ h => h) rfl (Till.gone (by kernel_rfl)) ?_ ?_
          rotate_left 1
          · intro w; go_simp; try with_reducible rfl
          try simp only [Act.put, List.setIfInBounds_toArray, List.set_cons_zero, List.set_cons_succ, List.getElem_toArray, List.getElem_cons_succ, List.getElem_cons_zero]
          refine wpTill_free 11 (v := ?_) rfl (by kernel_rfl) (by kernel_rfl) (by kernel_rfl) (by kernel_rfl) (fun _ _ _ h => h) rfl (Till.gone (by kernel_rfl)) ?_ ?_
          rotate_left 1
          · intro w; go_simp; try with_reducible rfl
          try simp only [Act.put, List.setIfInBounds_toArray, List.set_cons_zero, List.set_cons_succ, List.getElem_toArray, List.getElem_cons_succ, List.getElem_cons_zero]
          refine wpTill_free 12 (v := ?_) rfl (by kernel_rfl) (by kernel_rfl) (by kernel_rfl) (by kernel_rfl) (fun _ _ _ h => h) rfl (Till.gone (by kernel_rfl)) ?_ ?_
          rotate_left 1
          · intro w; go_simp; try with_reducible rfl
          try simp only [Act.put, List.setIfInBounds_toArray, List.set_cons_zero, List.set_cons_succ, List.getElem_toArray, List.getElem_cons_succ, List.getElem_cons_zero]
          refine wpTill_free 13 (v := ?_) rfl (by kernel_rfl) (by kernel_rfl) (by kernel_rfl) (by kernel_rfl) (fun _ _ _ h => h) rfl (Till.gone (by kernel_rfl)) ?_ ?_
          rotate_left 1
          · intro w; go_simp; try with_reducible rfl
          try simp only [Act.put, List.setIfInBounds_toArray, List.set_cons_zero, List.set_cons_succ, List.getElem_toArray, List.getElem_cons_succ, List.getElem_cons_zero]
          refine wpTill_free 14 (v := ?_) rfl (by kernel_rfl) (by kernel_rfl) (by kernel_rfl) (by kernel_rfl) (fun _ _ _ h => h) rfl (Till.gone (by kernel_rfl)) ?_ ?_
          rotate_left 1
          · intro w; go_simp; try with_reducible rfl
          try simp only [Act.put, List.setIfInBounds_toArray, List.set_cons_zero, List.set_cons_succ, List.getElem_toArray, List.getElem_cons_succ, List.getElem_cons_zero]
          refine wpTill_done (by kernel_rfl) ?_ _
          have hgv : l.getD ((V : Int) + (j : Int)).toNat 0 = l.getD (V + j) 0 := by congr 1
          obtain ⟨_, _, x, hr, hd⟩ := HB.out
          obtain ⟨sA, sc, rfl, hsc⟩ := hr.form
          have hr5 := hr.keep ((Ext.refl own1 [] wr).drew.drewN n5) (by simp)
          have x5 := x.trans ((Ext.refl own1 [idw] wr).drew.drewN n5)
          have hst := cellsAt_step hin
          have HS5 := Lib.hid (And.intro x5 (And.intro hst (show V + (j + 1) ≤ l.length by omega)))
          have HR5 := Lib.hid hr5
          have hj8 : (j + 1) * 8 ≤ 140737488355328 := by omega
          rw [hgv]
          clear hst x5 x hr hr5 hd hgv hin HS
          generalize wr.drew.drewN n5 = W5 at *
          go_wp2_with (at_builtin; refine wpList_append_row rfl _ _ 188 rfl 22 (.int .u64 0) 1 8 Try.underlying188 info_u64 rfl (by decide) (by decide) rfl rfl rfl (one_cell' _ rfl) HR5.out hj8 ?_)
          intro g cap' w6 own6 hr6 x6 _ _
          go_wp2_with fail
          go_roundw
          case measure => simp [intOf]; omega
          refine ⟨j + 1, own6, by go_num, by omega, HS5.out.1.trans x6, ?_, Or.inr HS5.out.2.2⟩
          have := HS5.out.2.1
          rw [← this, List.map_append]
          simpa [List.getD] using hr6
        · refine wp_calmN ?_
          refine wp_region_till 9 (fun W => W.cell? ⟨r, 0, none⟩ = some (.pointer (some ⟨ph, 0, none⟩))) (by kernel_rfl) ?_
          refine wpTill_free 0 (v := ?_) rfl (by kernel_rfl) (by kernel_rfl) (by kernel_rfl) (by kernel_rfl) (fun _ _ _ h => h) rfl (fun _ => HS) ?_ ?_
          rotate_left 1
          · intro w; go_simp; try with_reducible rfl
          try simp only [Act.put, List.setIfInBounds_toArray, List.set_cons_zero, List.set_cons_succ, List.getElem_toArray, List.getElem_cons_succ, List.getElem_cons_zero]
          refine wpTill_free 1 (v := ?_) rfl (by kernel_rfl) (by kernel_rfl) (by kernel_rfl) (by kernel_rfl) (fun _ _ _ h => h) rfl (fun _ => HS) ?_ ?_
          rotate_left 1
          · intro w; go_simp; try with_reducible rfl
          try simp only [Act.put, List.setIfInBounds_toArray, List.set_cons_zero, List.set_cons_succ, List.getElem_toArray, List.getElem_cons_succ, List.getElem_cons_zero]
          refine wpTill_free 2 (v := ?_) rfl (by kernel_rfl) (by kernel_rfl) (by kernel_rfl) (by kernel_rfl) (fun _ _ _ h => h) rfl (fun _ => HS) ?_ ?_
          rotate_left 1
          · intro w; go_simp; try with_reducible rfl
          try simp only [Act.put, List.setIfInBounds_toArray, List.set_cons_zero, List.set_cons_succ, List.getElem_toArray, List.getElem_cons_succ, List.getElem_cons_zero]
          refine wpTill_take 3 (v := ?_) rfl (by kernel_rfl) (by kernel_rfl) (by kernel_rfl) (by kernel_rfl) (by kernel_rfl) (fun _ _ _ h => h) rfl HS ?_ ?_
          rotate_left 1
          · intro w hSw; go_split_ands; go_simp; try with_reducible rfl
          try simp only [Act.put, List.setIfInBounds_toArray, List.set_cons_zero, List.set_cons_succ, List.getElem_toArray, List.getElem_cons_succ, List.getElem_cons_zero]
          refine wpTill_free 4 (v := ?_) rfl (by kernel_rfl) (by kernel_rfl) (by kernel_rfl) (by kernel_rfl) (fun _ _ _ h => h) rfl (fun _ => HS) ?_ ?_
          rotate_left 1
          · intro w; go_simp; try with_reducible rfl
          try simp only [Act.put, List.setIfInBounds_toArray, List.set_cons_zero, List.set_cons_succ, List.getElem_toArray, List.getElem_cons_succ, List.getElem_cons_zero]
          refine wpTill_free 7 (v := ?_) rfl (by kernel_rfl) (by kernel_rfl) (by kernel_rfl) (by kernel_rfl) (fun _ _ _ h => h) rfl (fun _ => HS) ?_ ?_
          rotate_left 1
          · intro w; go_simp; try with_reducible rfl
          try simp only [Act.put, List.setIfInBounds_toArray, List.set_cons_zero, List.set_cons_succ, List.getElem_toArray, List.getElem_cons_succ, List.getElem_cons_zero]
          refine wpTill_one 5 rfl (by kernel_rfl) rfl (fun K hK => ?_)
          go_simp
          refine (HVA.out.1 _).mono ?_
          rintro e w' ⟨rfl, rfl⟩
          refine hK.out _ _ (fun _ => HS) ?_
          clear hK K
          try simp only [Act.put, List.setIfInBounds_toArray, List.set_cons_zero, List.set_cons_succ, List.getElem_toArray, List.getElem_cons_succ, List.getElem_cons_zero]
          refine wpTill_free 6 (v := ?_) rfl (by kernel_rfl) (by kernel_rfl) (by kernel_rfl) (by kernel_rfl) (fun _ _ _ h => h) rfl (fun _ => HS) ?_ ?_
          rotate_left 1
          · intro w; go_simp; try with_reducible rfl
          try simp only [Act.put, List.setIfInBounds_toArray, List.set_cons_zero, List.set_cons_succ, List.getElem_toArray, List.getElem_cons_succ, List.getElem_cons_zero]
          refine wpTill_free 8 (v := ?_) rfl (by kernel_rfl) (by kernel_rfl) (by kernel_rfl) (by kernel_rfl) (fun _ _ _ h => h) rfl (fun _ => HS) ?_ ?_
          rotate_left 1
          · intro w; go_simp; try with_reducible rfl
          try simp only [Act.put, List.setIfInBounds_toArray, List.set_cons_zero, List.set_cons_succ, List.getElem_toArray, List.getElem_cons_succ, List.getElem_cons_zero]
          refine wpTill_one 9 rfl (by kernel_rfl) rfl (fun K hK => ?_)
          go_simp
          refine (get_out own1 idh ph most ((V : Int) + j) l _ (HB.out.2.1.keep (Ext.refl own1 [] wr).drew (by simp)) (by omega)).mono ?_
          rintro e w' ⟨rfl, n5, rfl⟩
          refine hK.out _ _ (Till.gone (by kernel_rfl)) ?_
          clear hK K
          try simp only [Act.put, List.setIfInBounds_toArray, List.set_cons_zero, List.set_cons_succ, List.getElem_toArray, List.getElem_cons_succ, List.getElem_cons_zero]
          refine wpTill_free 10 (v := ?_) rfl (by kernel_rfl) (by kernel_rfl) (by kernel_rfl) (by kernel_rfl) (fun _ _ _ h => h) rfl (Till.gone (by kernel_rfl)) ?_ ?_
          rotate_left 1
          · intro w; go_simp; try with_reducible rfl
          try simp only [Act.put, List.setIfInBounds_toArray, List.set_cons_zero, List.set_cons_succ, List.getElem_toArray, List.getElem_cons_succ, List.getElem_cons_zero]
          refine wpTill_free 11 (v := ?_) rfl (by kernel_rfl) (by kernel_rfl) (by kernel_rfl) (by kernel_rfl) (fun _ _ _ h => h) rfl (Till.gone (by kernel_rfl)) ?_ ?_
          rotate_left 1
          · intro w; go_simp; try with_reducible rfl
          try simp only [Act.put, List.setIfInBounds_toArray, List.set_cons_zero, List.set_cons_succ, List.getElem_toArray, List.getElem_cons_succ, List.getElem_cons_zero]
          refine wpTill_free 12 (v := ?_) rfl (by kernel_rfl) (by kernel_rfl) (by kernel_rfl) (by kernel_rfl) (fun _ _ _ h => h) rfl (Till.gone (by kernel_rfl)) ?_ ?_
          rotate_left 1
          · intro w; go_simp; try with_reducible rfl
          try simp only [Act.put, List.setIfInBounds_toArray, List.set_cons_zero, List.set_cons_succ, List.getElem_toArray, List.getElem_cons_succ, List.getElem_cons_zero]
          refine wpTill_free 13 (v := ?_) rfl (by kernel_rfl) (by kernel_rfl) (by kernel_rfl) (by kernel_rfl) (fun _ _ _ h => h) rfl (Till.gone (by kernel_rfl)) ?_ ?_
          rotate_left 1
          · intro w; go_simp; try with_reducible rfl
          try simp only [Act.put, List.setIfInBounds_toArray, List.set_cons_zero, List.set_cons_succ, List.getElem_toArray, List.getElem_cons_succ, List.getElem_cons_zero]
          refine wpTill_free 14 (v := ?_) rfl (by kernel_rfl) (by kernel_rfl) (by kernel_rfl) (by kernel_rfl) (fun _ _ _ h => h) rfl (Till.gone (by kernel_rfl)) ?_ ?_
          rotate_left 1
          · intro w; go_simp; try with_reducible rfl
          try simp only [Act.put, List.setIfInBounds_toArray, List.set_cons_zero, List.set_cons_succ, List.getElem_toArray, List.getElem_cons_succ, List.getElem_cons_zero]
          refine wpTill_done (by kernel_rfl) ?_ _
          have hno : ¬ (V + n ≤ l.length) := by omega
          go_wp2_with fail
          go_ret2
          refine ⟨own1, HB.out.2.2.1.drewN _, ?_⟩
          exact WordsEnd.no hno
    · obtain rfl : j = n := by omega
      have hyes : V + j ≤ l.length := by rcases hd with hd | hd <;> omega
      have HQ := Lib.hid (And.intro x (And.intro hr hyes))
      clear hd hr x hyes
      go_wp2_with fail
      go_ret2
      refine ⟨own1, HQ.out.1, ?_⟩
      exact WordsEnd.yes HQ.out.2.2 HQ.out.2.1

end Go.Proofs.Ytlmcfclonncgbaa
