/- The reference's table of names (package elenchusref4), each call by a contract. -/
import Derived.Test.YtlmcfclonncgbaaPk2
namespace Go.Proofs.Ytlmcfclonncgbaa
open Go.RowKit
set_option linter.unusedVariables false

/-- The reference's table at block p. -/
def RAP (own : Nat → Nat) (id : Nat) (w : World) (p : Nat) (L : List ByteArray) : Prop :=
  ∃ v, Blk own id w p [v] 57 ∧ Row own id w 9 1 v L.length (strs L) ∧ Names L
theorem RAP.keep {own own' : Nat → Nat} {id p : Nat} {ids : List Nat} {w w' : World} {L : List ByteArray} (h : RAP own id w p L) (x : Ext own own' ids w w') (hi : id ∉ ids) : RAP own' id w' p L := by
  obtain ⟨v, hb, hr, hn⟩ := h
  exact ⟨v, hb.keep x hi, hr.keep x hi, hn⟩
theorem RAP.dr {own : Nat → Nat} {id p : Nat} {w : World} {L : List ByteArray} (h : RAP own id w p L) (n : Nat) : RAP own id (w.drewN n) p L := h
theorem RAP.names {own : Nat → Nat} {id p : Nat} {w : World} {L : List ByteArray} (h : RAP own id w p L) : Names L := by
  obtain ⟨v, hb, hr, hn⟩ := h; exact hn
set_option maxHeartbeats 800000 in
theorem ranew_any (own : Nat → Nat) (id : Nat) (w : World) : Calls Try.prog 38 #[] w fun e w' => ∃ own' p, Ext own own' [] w w' ∧ e = .returned (.pointer (some ⟨p, 0, none⟩)) ∧ w.heap.size ≤ p ∧ p < w'.heap.size ∧ RAP own' id w' p names0 := by
  go_enter Try.func38, Try.ntmps38
  go_wp2_with fail
  go_ret
  have y1 : Ext own (give own w.heap.size id) [] w (w.alloc (.cells #[.string ⟨#[91, 93]⟩, .string ⟨#[46]⟩] 9)) := ((Ext.refl own [] w).alloc _).give _ _ (Nat.le_refl _)
  have hro : Row (give own w.heap.size id) id (w.alloc (.cells #[.string ⟨#[91, 93]⟩, .string ⟨#[46]⟩] 9)) 9 1 (.slice (some ⟨w.heap.size, 0, none⟩) 2 2) 2 (strs names0) := by
    refine ⟨⟨rfl, Or.inr ⟨_, 2, _, rfl, Nat.zero_le _, heap_alloc_new _ _, by decide, by decide, by decide, ?_⟩⟩, fun k hk => ?_⟩
    · rfl
    · simp [Value.ownBlock] at hk; subst hk; exact give_same _ _ _
  generalize give own w.heap.size id = o1 at *
  have hs1 := y1.size
  generalize hW : w.alloc (.cells #[.string ⟨#[91, 93]⟩, .string ⟨#[46]⟩] 9) = W at *
  have hWs : W.heap.size = w.heap.size + 1 := by rw [← hW]; simp
  have z1 : Ext o1 (give o1 W.heap.size id) [] W (W.alloc (.cells #[.slice (some ⟨w.heap.size, 0, none⟩) 2 2] 57)) := ((Ext.refl o1 [] W).alloc _).give _ _ (Nat.le_refl _)
  have hN := give_same o1 W.heap.size id
  exact ⟨give o1 W.heap.size id, W.heap.size, y1.trans z1, by simp [hWs], hs1, by simp, _, ⟨heap_alloc_new _ _, hN⟩, hro.keep z1 (by simp), names0_ok⟩
set_option maxHeartbeats 1600000 in
set_option maxRecDepth 100000 in
theorem rafind_any (own : Nat → Nat) (id p : Nat) (s : ByteArray) (L : List ByteArray) (w : World) (h : RAP own id w p L) :
    Calls Try.prog 94 #[.pointer (some ⟨p, 0, none⟩), .string s] w (Quiet w (.tuple #[.int .i64 (findN L s), .bool (memB L s)])) := by
  obtain ⟨v, hb, hr, hn⟩ := h
  have c0 := hb.cell 0 rfl
  have hfew := hn.few
  obtain ⟨A, cap, rfl, hc⟩ := hr.form
  obtain ⟨N, hN⟩ : ∃ N, L.length = N := ⟨_, rfl⟩
  rw [hN] at c0 hr hfew
  have HN := Lib.hid hN
  clear hN hn hc
  go_enter Try.func94, Try.ntmps94
  go_wp2_with fail
  go_loop [13] (fun v => ∃ k : Nat, v = .int .i64 k ∧ k ≤ N ∧ k ≤ idxL L s) (fun v => N - (intOf v).toNat)
  case atStart => exact ⟨0, rfl, by omega, by omega⟩
  case round =>
    obtain ⟨k, rfl, hk, hki⟩ := hrel
    by_cases hlt : k < N
    · obtain ⟨g, c, hv, _⟩ := hr.form_pos (by omega)
      cases hv
      obtain ⟨x, hx⟩ : ∃ x, L[k]? = some x := ⟨_, List.getElem?_eq_getElem (by rw [HN.out]; exact hlt)⟩
      have ck := hr.cell k (strs_get hx)
      by_cases he : k = idxL L s
      · have hxs : x = s := by
          have := idxL_get L s (by rw [← he, HN.out]; exact hlt)
          rw [← he, hx] at this
          simpa using this
        subst hxs
        have hm : memB L x = true := by unfold memB; rw [← he, HN.out]; simpa using hlt
        have hf : findN L x = k := by unfold findN; rw [if_pos hm, ← he]
        rw [hm, hf]
        have HE := Lib.hid he
        clear hx he hm hf
        go_wp2_with fail
        go_ret2
        exact ⟨rfl, 0, rfl⟩
      · have hne : x ≠ s := idxL_before L s x k (by omega) hx
        have hne' := str_ne hne
        have HX := Lib.hid hx
        clear hx
        go_wp2_with fail
        go_round
        case rel => exact ⟨k + 1, by go_num, by omega, by omega⟩
        case measure => simp [intOf]; omega
    · obtain rfl : k = N := by omega
      have hle := idxL_le L s
      rw [HN.out] at hle
      have hm : memB L s = false := by unfold memB; rw [HN.out]; simp; omega
      have hf : findN L s = 0 := by unfold findN; rw [if_neg (by simp [hm])]
      have HM := Lib.hid hm
      have HF := Lib.hid hf
      clear hm hf hle
      go_wp2_with fail
      go_ret2
      exact ⟨by rw [HM.out, HF.out]; rfl, 0, rfl⟩
set_option maxHeartbeats 1600000 in
set_option maxRecDepth 100000 in
theorem ranumber_any (own : Nat → Nat) (id p : Nat) (s : ByteArray) (L : List ByteArray) (w : World) (h : RAP own id w p L) :
    Calls Try.prog 47 #[.pointer (some ⟨p, 0, none⟩), .string s] w
      (Does own [id] w fun own' e w' => e = .returned (.tuple #[.int .i64 (numN L s), .int .i64 (numE L s)]) ∧ RAP own' id w' p (numL L s)) := by
  have hnames := h.names
  have hfew := hnames.few
  have hnn := hnames.num s
  have hfd := rafind_any own id p s L w h
  have HF := Lib.hid hfd
  clear hfd
  unfold numN numE
  by_cases h1 : 200 < s.size
  · have hL : numL L s = L := by unfold numL; rw [if_pos h1]
    simp only [if_pos h1]
    have h1' : (200 : Int) < (s.size : Int) := by omega
    rw [hL]
    clear hL hnn hnames
    go_enter Try.func47, Try.ntmps47
    go_wp2_with fail
    go_ret2
    exact ⟨own, Ext.refl _ _ _, rfl, h⟩
  · have h1' : (s.size : Int) ≤ 200 := by omega
    simp only [if_neg h1]
    by_cases h2 : memB L s = true
    · have hL : numL L s = L := by unfold numL; rw [if_neg h1, if_pos h2]
      have hfn : findN L s = idxL L s := by unfold findN; rw [if_pos h2]
      rw [h2, hfn] at HF
      simp only [if_pos h2]
      rw [hL]
      clear hL hnn hnames hfn h2
      go_enter Try.func47, Try.ntmps47
      go_wp2_with (go_at_call 94; refine HF.out.mono ?_; rintro e w' ⟨rfl, n, rfl⟩)
      go_ret2
      exact ⟨own, (Ext.refl _ _ _).drewN _, rfl, h.dr _⟩
    · have h2' : memB L s = false := by simpa using h2
      rw [h2'] at HF
      simp only [if_neg h2]
      obtain ⟨v, hb, hr, hn⟩ := h
      have c0 := hb.cell 0 rfl
      obtain ⟨A, cap, rfl, hc⟩ := hr.form
      by_cases h3 : L.length = 4096
      · have hL : numL L s = L := by unfold numL; rw [if_neg h1, if_neg h2, if_pos h3]
        simp only [if_pos h3]
        rw [hL]
        have hq : (4096 : Int) ≤ L.length := by omega
        clear hL hnn hnames h2 h2' h3
        go_enter Try.func47, Try.ntmps47
        go_wp2_with (go_at_call 94; refine HF.out.mono ?_; rintro e w' ⟨rfl, n, rfl⟩)
        go_ret2
        exact ⟨own, (Ext.refl _ _ _).drewN _, rfl, _, hb, hr, hn⟩
      · have hL : numL L s = L ++ [s] := by unfold numL; rw [if_neg h1, if_neg h2, if_neg h3]
        simp only [if_neg h3]
        rw [hL] at hnn ⊢
        have hq : (L.length : Int) < 4096 := by omega
        have hq0 : 0 ≤ (L.length : Int) := by omega
        have hbo := hb.2
        have HBO := Lib.hid hbo
        clear hL hnames h2 h2' h3 hbo
        go_enter Try.func47, Try.ntmps47
        go_wp2_with fail
        refine HF.out.mono ?_
        rintro e w' ⟨rfl, n, rfl⟩
        replace hb : Blk own id (w.drewN n) p _ _ := hb
        replace hr : Row own id (w.drewN n) _ _ _ _ _ := hr
        have x0 := (Ext.refl own [id] w).drewN n
        generalize w.drewN n = W at *
        clear c0
        have c0 := hb.cell 0 rfl
        go_wp2_with (at_builtin; refine wpList_append_row rfl _ _ 55 rfl 9 (.string ByteArray.empty) 1 16 Try.underlying55 info_str rfl (by decide) (by decide) rfl rfl rfl (one_cell' _ rfl) hr (by omega) ?_)
        intro g cap' w2 own2 hr2 x2 hk2 _
        have hb2 := hk2 p _ _ hb (by decide)
        clear hk2
        have d0 := hb2.cell 0 rfl
        have f0 := hb2.free 0
        clear c0
        go_wp2
        go_ret2
        have hne : (Value.slice (some ⟨g, 0, none⟩) (L.length + 1) cap').ownBlock ≠ some p := hr2.ne_blk hb2 (by decide)
        refine ⟨own2, ?_, rfl, _, hb2.set 0 _, ?_, hnn⟩
        · exact (x0.trans x2).setCell _ _ (fun hlt => by show own p ∈ [id]; rw [HBO.out]; simp)
        · have := hr2.far (p := ⟨p, 0, none⟩) hne (Value.slice (some ⟨g, 0, none⟩) (L.length + 1) cap')
          rw [strs_append, List.length_append]
          exact this

end Go.Proofs.Ytlmcfclonncgbaa
