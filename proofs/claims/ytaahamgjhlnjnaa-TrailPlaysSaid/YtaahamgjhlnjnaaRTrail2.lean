/- The reference's trail (elenchusref4), Undo by a contract. -/
import Derived.Test.YtaahamgjhlnjnaaRTrail
import Derived.Test.YtaahamgjhlnjnaaChain
import Derived.Test.YtaahamgjhlnjnaaTrailGo
namespace Go.Proofs.Ytaahamgjhlnjnaa
open Go.RowKit
set_option linter.unusedVariables false

theorem rcut_end6 {own : Nat → Nat} {id p cap j : Nat} {A : Option Addr} {L : List (Int × Int)} {w : World} (hb : Blk own id w p [.slice A L.length cap] 102) (hr : Row own id w 119 2 (.slice A L.length cap) L.length (writes L)) (hj : j ≤ L.length) :
    Ext own own [id] w (w.setCell ⟨p, 0, none⟩ (.slice A j cap)) ∧ RT own id (w.setCell ⟨p, 0, none⟩ (.slice A j cap)) p (L.take j) := by
  have hne := hr.ne_blk hb (by decide)
  have hcut := hr.cut (m := j) hj
  refine ⟨(Ext.refl own [id] w).setCell _ _ (fun _ => by show own p ∈ [id]; rw [hb.2]; simp), _, hb.set 0 _, ?_⟩
  have := hcut.far (p := ⟨p, 0, none⟩) (by cases A with | none => simp [Value.ownBlock] | some a => simpa [Value.ownBlock] using hne) (.slice A j cap)
  rw [writes_take] at this
  rw [List.length_take, Nat.min_eq_left hj]
  exact this
theorem rtundo_out (own : Nat → Nat) (id p : Nat) (hp : Option Addr) (mark : Int) (L : List (Int × Int)) (w : World) (h : RT own id w p L) (hm : mark < 0 ∨ (L.length : Int) < mark) :
    Calls Try.prog 71 #[.pointer (some ⟨p, 0, none⟩), .pointer hp, .int .i64 mark] w (Quiet w (.int .i64 0)) := by
  obtain ⟨v, hb, hr⟩ := h
  obtain ⟨A, cap, rfl, hc⟩ := hr.form
  have c0 := hb.cell 0 rfl
  rcases hm with h | h
  · go_enter Try.func71, Try.ntmps71
    go_wp2_with fail
    go_ret
    exact ⟨rfl, 0, rfl⟩
  · have h1 : 0 ≤ mark := by omega
    go_enter Try.func71, Try.ntmps71
    go_wp2_with fail
    go_ret
    exact ⟨rfl, 0, rfl⟩
set_option maxHeartbeats 800000 in
set_option maxRecDepth 100000 in
theorem rtundo_eq (own : Nat → Nat) (id p : Nat) (hp : Option Addr) (L : List (Int × Int)) (w : World) (h : RT own id w p L) (hL : L.length < 1000000000) :
    Calls Try.prog 71 #[.pointer (some ⟨p, 0, none⟩), .pointer hp, .int .i64 L.length] w (Does own [id] w fun own' e w' => e = .returned (.int .i64 0) ∧ RT own' id w' p L) := by
  obtain ⟨v, hb, hr⟩ := h
  obtain ⟨A, cap, rfl, hc⟩ := hr.form
  obtain ⟨z1, z2⟩ := rcut_end6 hb hr (Nat.le_refl _)
  rw [List.take_length] at z2
  have c0 := hb.cell 0 rfl
  have f0 := hb.free 0
  have h0 : (0 : Int) ≤ L.length := by omega
  go_enter Try.func71, Try.ntmps71
  go_wp2_with fail
  go_loop [8] (fun v => v = .int .i64 ((L.length : Int) - 1)) (fun _ => 0)
  case atStart => rfl
  case round =>
    subst hrel
    go_wp2_with fail
    go_ret
    exact ⟨own, z1, rfl, z2⟩
set_option maxHeartbeats 3200000 in
set_option maxRecDepth 100000 in
theorem rtundo_in (own : Nat → Nat) (idh id ph p : Nat) (most mark : Int) (l : List Int) (L : List (Int × Int)) (w : World) (hh : RH own idh w ph most l) (h : RT own id w p L) (hid : idh ≠ id) (hid9 : idh ≠ 9 ∧ id ≠ 9) (h0 : 0 ≤ mark) (hlt : mark < L.length) (hL : L.length < 1000000000) (hpos : ∀ e ∈ L, 0 ≤ e.1) :
    Calls Try.prog 71 #[.pointer (some ⟨p, 0, none⟩), .pointer (some ⟨ph, 0, none⟩), .int .i64 mark] w
      (Does own [idh, id] w fun own' e w' => e = .returned (.int .i64 (L.length - mark)) ∧ RH own' idh w' ph most (undoL l (L.drop mark.toNat).reverse) ∧ RT own' id w' p (L.take mark.toNat)) := by
  obtain ⟨m, rfl⟩ := Int.eq_ofNat_of_zero_le h0
  rw [Int.toNat_natCast]
  obtain ⟨N, hN⟩ : ∃ N, L.length = N + 1 := ⟨L.length - 1, by omega⟩
  have c0 : ∃ A cap, w.cell? ⟨p, 0, none⟩ = some (.slice A L.length cap) := by
    obtain ⟨v, hb, hr⟩ := h
    obtain ⟨A, cap, rfl, hc⟩ := hr.form
    exact ⟨A, cap, hb.cell 0 rfl⟩
  obtain ⟨A0, cap0, c0⟩ := c0
  rw [hN] at c0
  have hHP := Lib.hid hpos
  clear hpos
  have hjm : m ≤ N := by omega
  have HN := Lib.hid hN
  have hNN : N < 1000000000 := by omega
  clear hL
  have h9h : 9 ∉ ([] : List Nat) := by simp
  clear hN hlt
  have hjm' : (m : Int) ≤ N := by omega
  go_enter Try.func71, Try.ntmps71
  go_wp2_with fail
  go_loopw [8] (fun v wr => ∃ (j : Nat) (own' : Nat → Nat), v = .int .i64 ((N : Int) - j) ∧ m + j ≤ N + 1 ∧ Ext own own' [idh, id] w wr ∧ RH own' idh wr ph most (undoL l (((L.drop m).reverse).take j)) ∧ RT own' id wr p L) (fun v _ => (intOf v + 1 - m).toNat)
  case atStart => exact ⟨0, own, by go_num, by omega, Ext.refl _ _ _, hh, h⟩
  case round =>
    obtain ⟨j, own', rfl, hj, x, hh', h'⟩ := hrel
    clear hh h c0
    by_cases hlt2 : m + j < N + 1
    · obtain ⟨q, hq⟩ : ∃ q : Nat, (N : Int) - j = q := ⟨N - j, by omega⟩
      rw [hq]
      have hrt := rev_take L m j (by rw [HN.out]; omega)
      have hqe : L.length - 1 - j = q := by rw [HN.out]; omega
      rw [hqe] at hrt
      have hql : q < L.length := by rw [HN.out]; omega
      have hep := hHP.out (L.getD q (0, 0)) (by simp [List.getD, hql])
      have hsn := undoL_snoc l (((L.drop m).reverse).take j) (L.getD q (0, 0))
      rw [← hrt] at hsn
      have hwg := writes_get L q hql
      have HSN := Lib.hid hsn
      have HQ := Lib.hid hq
      have HQE := Lib.hid hqe
      clear hsn hrt hq hqe
      generalize L.getD q (0, 0) = en at *
      obtain ⟨ea, ec⟩ := en
      simp only at hep hwg
      generalize undoL l (((L.drop m).reverse).take j) = lj at *
      obtain ⟨z, rfl⟩ := Int.eq_ofNat_of_zero_le hep
      obtain ⟨vt, hbt, hrt⟩ := _root_.id h'
      obtain ⟨gt, capt, rfl, hct⟩ := hrt.form_pos (by omega)
      have d0 := hbt.cell 0 rfl
      rw [HN.out] at d0
      have e0 := hrt.cell (q * 2) hwg.1
      have e1 := hrt.cell (q * 2 + 1) hwg.2
      obtain ⟨xb, hbx, xb0⟩ := x.box [.int .i64 (z : Int), .int .u64 ec] 119 9
      have hhb := hh'.keep xb0 (by simp)
      have htb := h'.keep xb0 (by simp)
      obtain ⟨vh, hbh, hrh, m1, m2⟩ := _root_.id hhb
      obtain ⟨Ah, caph, rfl, hch⟩ := hrh.form
      have k0 := hbx.cell 0 rfl
      have k1 := hbx.cell 1 rfl
      have g0 := hbh.cell 0 rfl
      have hqn : (q : Int) < N + 1 := by have := HN.out; omega
      have hqm : (m : Int) ≤ q := by have := HQ.out; omega
      clear hwg xb0 hhb hbt hrt
      go_upto_region 8 with fail
      generalize wr.heap.size = bq at *
      generalize wr.alloc (.cells #[.int .i64 (z : Int), .int .u64 ec] 119) = w1 at *
      generalize give own' bq 9 = ob at *
      by_cases hin : (z : Int) < lj.length
      · have hinb : inB lj (z : Int) = true := inB_true (by omega) hin
        have hstep : setL lj (z : Int) ec = lj.set z ec := by unfold setL; rw [if_pos hinb]; simp
        have HST := Lib.hid hstep
        obtain ⟨gg, rfl⟩ : ∃ gg, Ah = some ⟨gg, 0, none⟩ := by
          obtain ⟨g, _, hv, _⟩ := hrh.form_pos (by omega)
          exact ⟨g, (Value.slice.inj hv).1⟩
        have fk := hrh.free z
        have ckk := hrh.cell z (words_get lj z (by omega))
        clear hstep hinb
        go_quiet (fail)
        go_wp2_with fail
        go_region
        go_wp2_with fail
        go_roundw
        case rel =>
          obtain ⟨y1, y2⟩ := rset_end6 (j := z) (c := ec) hbh hrh m1 m2
          refine ⟨j + 1, ob, by have := HQ.out; congr 1; omega, by omega, ?_, ?_, ?_⟩
          · have y3 : Ext own ob [idh, id] w (w1.setCell ⟨gg, z, none⟩ (.int .u64 ec)) := xb.trans (y1.mono (by simp))
            first
              | exact y3
              | exact y3.drew
              | exact y3.drewN _
              | exact (y3.drewN _).drew
              | exact y3.drew.drewN _
          · rw [HSN.out, HST.out]; exact y2
          · have y4 : RT ob id (w1.setCell ⟨gg, z, none⟩ (.int .u64 ec)) p L := htb.keep y1 (by simpa using hid.symm)
            exact y4
        case measure => have := HQ.out; simp [intOf]; omega
      · have hinb : inB lj (z : Int) = false := inB_false (by omega)
        have hstep : setL lj (z : Int) ec = lj := by unfold setL; rw [hinb]; rfl
        have HST := Lib.hid hstep
        have hin' : (lj.length : Int) ≤ z := by omega
        clear hstep hinb
        go_quiet (fail)
        go_wp2_with fail
        go_roundw
        case rel => exact ⟨j + 1, ob, by have := HQ.out; congr 1; omega, by omega, xb.drewN _, by rw [HSN.out, HST.out]; exact ⟨_, hbh, hrh, m1, m2⟩, htb⟩
        case measure => have := HQ.out; simp [intOf]; omega
    · have hje : m + j = N + 1 := by omega
      have hq : (N : Int) - j = (m : Int) - 1 := by omega
      rw [hq]
      have hta : ((L.drop m).reverse).take j = (L.drop m).reverse := List.take_of_length_le (by simp; rw [HN.out]; omega)
      rw [hta] at hh'
      obtain ⟨vt, hbt, hrt⟩ := _root_.id h'
      obtain ⟨At, capt, rfl, hct⟩ := hrt.form
      obtain ⟨z1, z2⟩ := rcut_end6 (j := m) hbt hrt (by rw [HN.out]; omega)
      have d0 := hbt.cell 0 rfl
      rw [HN.out] at d0
      have f0 := hbt.free 0
      have hmc : m ≤ capt := by rw [HN.out] at hct; omega
      have hje' := Lib.hid hje
      clear hje hq hta
      go_wp2_with fail
      go_ret
      exact ⟨own', x.trans (z1.mono (by simp)), by rw [HN.out]; rfl, hh'.keep z1 (by simpa using hid), z2⟩

end Go.Proofs.Ytaahamgjhlnjnaa
