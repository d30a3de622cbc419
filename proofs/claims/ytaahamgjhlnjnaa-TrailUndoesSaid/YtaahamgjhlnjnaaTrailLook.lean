/- The law TrailUndoes' closure look (the cells, in a row of its own), and SameCells of the reference. -/
import Derived.Test.YtaahamgjhlnjnaaTrailGo
namespace Go.Proofs.Ytaahamgjhlnjnaa
open Go.RowKit
set_option linter.unusedVariables false

/-- Some owner that has nothing yet. -/
theorem fresh_owner (own : Nat → Nat) : ∀ n : Nat, ∃ F, ∀ b, b < n → own b < F
  | 0 => ⟨0, fun b h => by omega⟩
  | n + 1 => by
    obtain ⟨F, h⟩ := fresh_owner own n
    refine ⟨F + own n + 1, fun b hb => ?_⟩
    by_cases e : b = n
    · subst e; omega
    · have := h b (by omega); omega
/-- A row that a fresh owner made is anyone's. -/
theorem Row.anyone {own own1 : Nat → Nat} {F id : Nat} {w w' : World} {e : TypeId} {size n : Nat} {v : Value} {xs : List Value} (x : Ext own own1 [F] w w') (hF : ∀ b, b < w.heap.size → own b < F) (h : Row own1 F w' e size v n xs) :
    ∃ own2, Ext own own2 [] w w' ∧ Row own2 id w' e size v n xs := by
  refine ⟨fun b => if b < w.heap.size then own b else id, ⟨x.os, x.tape, x.output, x.size, fun b hb => if_pos hb, fun b hb _ => x.block b hb (by have := hF b hb; simp; omega)⟩, h.1, fun k hk => if_neg ?_⟩
  intro hlt
  have h1 := h.2 k hk
  have h2 := x.own k hlt
  have h3 := hF k hlt
  omega

set_option maxHeartbeats 3200000 in
set_option maxRecDepth 100000 in
theorem look_any (own : Nat → Nat) (idh id ph bh : Nat) (most : Int) (l : List Int) (w : World) (h : HP own idh w ph most l) (hbh : Blk own 9 w bh [.pointer (some ⟨ph, 0, none⟩)] 64) :
    Calls Try.prog 64 #[.pointer (some ⟨bh, 0, none⟩)] w fun e w' => ∃ v own', e = .returned v ∧ Ext own own' [] w w' ∧ Row own' id w' 24 1 v l.length (words l) := by
  obtain ⟨F, hF⟩ := fresh_owner own w.heap.size
  have hFh : idh ∉ [F] := by
    have h2 := h
    obtain ⟨v, hb, _⟩ := h2
    have := hF _ hb.lt
    rw [hb.2] at this
    simp; omega
  have hF9 : 9 ∉ [F] := by
    have := hF _ hbh.lt
    rw [hbh.2] at this
    simp; omega
  have hl60 := h.len
  obtain ⟨N, hN⟩ : ∃ N, l.length = N := ⟨_, rfl⟩
  rw [hN] at hl60
  have HF := Lib.hid hF
  have HFh := Lib.hid hFh
  have HF9 := Lib.hid hF9
  have hln := len_any own idh ph most l w h
  rw [hN] at hln
  have HN := Lib.hid hN
  clear hF hFh hF9 hN
  have f0 := hbh.cell 0 rfl
  go_enter Try.func64, Try.ntmps64
  go_wp2_with fail
  refine hln.mono ?_
  rintro e w1 ⟨rfl, n, rfl⟩
  clear hln f0
  go_wp2_with fail
  go_loopw [2, 8] (fun v v' wr => ∃ (j : Nat) (own' : Nat → Nat), v' = .int .i64 j ∧ j ≤ N ∧ Ext own own' [F] w wr ∧ Row own' F wr 24 1 v j (words (l.take j))) (fun _ v' _ => N - (intOf v').toNat)
  case atStart => exact ⟨0, own, rfl, by omega, (Ext.refl _ _ _).drewN n, Row.nil _ _ _ _ _⟩
  case round =>
    obtain ⟨j, own', rfl, hj, x, hr⟩ := hrel
    have a := h.keep x HFh.out
    have kh := hbh.keep x HF9.out
    have f0 := kh.cell 0 rfl
    by_cases hlt : j < N
    · obtain ⟨Ar, cr, rfl, hcr⟩ := hr.form
      have hg := get_in own' idh ph most j l wr a (by omega) (by rw [HN.out]; omega)
      rw [Int.toNat_natCast] at hg
      have hn : words (l.take j) ++ [Value.int .u64 (l.getD j 0)] = words (l.take (j + 1)) := by
        rw [take_succ_getD l j (by rw [HN.out]; exact hlt), words_append]; rfl
      have HNW := Lib.hid hn
      clear hn a h
      generalize l.getD j 0 = y at *
      go_wp2_with fail
      refine hg.mono ?_
      rintro e w' ⟨rfl, n3, rfl⟩
      have hr3 : Row own' F (wr.drewN n3) _ _ _ _ _ := hr
      have x3 := x.drewN n3
      generalize wr.drewN n3 = w3 at *
      clear x hr hg
      go_wp2_with (at_builtin; refine wpList_append_row rfl _ _ 69 rfl 24 (.int .u64 0) 1 8 Try.underlying69 info_cell rfl (by decide) (by decide) rfl rfl rfl (one_cell' _ rfl) hr3 (by omega) ?_)
      intro g cap' w4 own4 hr4 x4 _ _
      go_wp2_with fail
      go_roundw
      case rel => exact ⟨j + 1, own4, by go_num, by omega, x3.trans x4, by rw [← HNW.out]; exact hr4⟩
      case measure => simp [intOf]; omega
    · obtain rfl : j = N := by omega
      rw [List.take_of_length_le (by rw [HN.out]; exact Nat.le_refl _)] at hr
      go_wp2_with fail
      go_ret
      obtain ⟨own2, x2, hr2⟩ := Row.anyone (id := id) x HF.out hr
      exact ⟨_, own2, rfl, x2, by rw [HN.out]; exact hr2⟩

set_option maxHeartbeats 1600000 in
theorem same_true (own : Nat → Nat) (i1 i2 : Nat) (v v' : Value) (l : List Int) (w : World) (hr : Row own i1 w 24 1 v l.length (words l)) (hs : Row own i2 w 24 1 v' l.length (words l)) (hL : l.length < 1000000000) :
    Calls Try.prog 65 #[v, v'] w (Quiet w (.bool true)) := by
  obtain ⟨A, ca, rfl, hca⟩ := hr.form
  obtain ⟨A', ca', rfl, hca'⟩ := hs.form
  obtain ⟨N, hN⟩ : ∃ N, l.length = N := ⟨_, rfl⟩
  rw [hN] at hr hs hL ⊢
  have HN := Lib.hid hN
  clear hN hca hca'
  go_enter Try.func65, Try.ntmps65
  go_wp2_with fail
  go_loopw [13] (fun v wr => ∃ (j a : Nat), v = .int .i64 j ∧ j ≤ N ∧ wr = w.drewN a) (fun v _ => N - (intOf v).toNat)
  case atStart => exact ⟨0, 0, rfl, by omega, rfl⟩
  case round =>
    obtain ⟨j, a, rfl, hj, rfl⟩ := hrel
    have hr2 : Row own i1 (w.drewN a) _ _ _ _ _ := hr
    have hs2 : Row own i2 (w.drewN a) _ _ _ _ _ := hs
    by_cases hlt : j < N
    · obtain ⟨g, c, hv, _⟩ := hr2.form_pos (by omega)
      cases hv
      obtain ⟨g', c', hv', _⟩ := hs2.form_pos (by omega)
      cases hv'
      have c1 := hr2.cell j (words_get l j (by rw [HN.out]; exact hlt))
      have c2 := hs2.cell j (words_get l j (by rw [HN.out]; exact hlt))
      generalize l.getD j 0 = y at *
      clear hr hs hr2 hs2
      obtain ⟨W, hW⟩ : ∃ W, w.drewN a = W := ⟨_, rfl⟩
      rw [hW] at c1 c2 ⊢
      have HW := Lib.hid hW
      clear hW
      go_wp2_with fail
      go_quiet (fail)
      go_wp2_with fail
      go_roundw
      case rel => exact ⟨j + 1, _, by go_num, by omega, by rw [← HW.out]; exact World.drewN_drewN _ _ _⟩
      case measure => simp [intOf]; omega
    · go_wp2_with fail
      go_ret
      exact ⟨rfl, _, rfl⟩

end Go.Proofs.Ytaahamgjhlnjnaa
