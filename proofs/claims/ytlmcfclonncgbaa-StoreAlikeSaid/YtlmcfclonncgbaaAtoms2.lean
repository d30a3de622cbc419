/- The table's Number and New (package atoms), each by a contract. -/
import Derived.Test.YtlmcfclonncgbaaAtoms
namespace Go.Proofs.Ytlmcfclonncgbaa
open Go.RowKit
set_option linter.unusedVariables false

open Go.Maps (Keyed string_keyed int_keyed)
theorem anumber_long (own : Nat → Nat) (id idm p : Nat) (s : ByteArray) (L : List ByteArray) (w : World) (h : TabP own id idm w p L) (hs : 200 < s.size) :
    Calls Try.prog 46 #[.pointer (some ⟨p, 0, none⟩), .string s] w (Quiet w (.tuple #[.int .i64 0, .int .i64 3])) := by
  have h1 : (200 : Int) < (s.size : Int) := by omega
  clear h
  go_enter Try.func46, Try.ntmps46
  go_wp2_with fail
  go_ret2
  exact ⟨rfl, 0, rfl⟩
set_option maxHeartbeats 800000 in
theorem anumber_met (own : Nat → Nat) (id idm p : Nat) (s : ByteArray) (L : List ByteArray) (w : World) (h : TabP own id idm w p L) (hs : s.size ≤ 200) (hk : memB L s = true) :
    Calls Try.prog 46 #[.pointer (some ⟨p, 0, none⟩), .string s] w (Quiet w (.tuple #[.int .i64 (findN L s), .int .i64 0])) := by
  obtain ⟨v, bm, D, hb, hr, hm, ht, hn⟩ := h
  have c1 := hb.cell 1 rfl
  have h1 := (ht s).1
  have h2 := (ht s).2
  rw [hk] at h1
  have H1 := Lib.hid h1
  have H2 := Lib.hid h2
  have hz : (s.size : Int) ≤ 200 := by omega
  clear h1 h2 hr hn hk
  go_enter Try.func46, Try.ntmps46
  go_wp2_with (at_lookup; refine wpList_map_look_ok _ rfl _ _ 122 rfl 9 3 .i64 law_str Try.underlying122 Try.underlying3 (zero_int _) hm rfl _ _ rfl (key_str (by unfold maxLen; omega)) _ H2.out _ H1.out ?_)
  go_ret2
  exact ⟨rfl, 0, rfl⟩
set_option maxHeartbeats 800000 in
theorem anumber_full (own : Nat → Nat) (id idm p : Nat) (s : ByteArray) (L : List ByteArray) (w : World) (h : TabP own id idm w p L) (hs : s.size ≤ 200) (hk : memB L s = false) (hf : L.length = 4096) :
    Calls Try.prog 46 #[.pointer (some ⟨p, 0, none⟩), .string s] w (Quiet w (.tuple #[.int .i64 0, .int .i64 8])) := by
  obtain ⟨v, bm, D, hb, hr, hm, ht, hn⟩ := h
  have c0 := hb.cell 0 rfl
  have c1 := hb.cell 1 rfl
  obtain ⟨A, cap, rfl, hc⟩ := hr.form
  have h1 := (ht s).1
  have h2 := (ht s).2
  rw [hk] at h1
  have H1 := Lib.hid h1
  have H2 := Lib.hid h2
  have hz : (s.size : Int) ≤ 200 := by omega
  have hq : ((L.length : Int) == 4096) = true := by simp; omega
  clear h1 h2 hr hn hk hf
  go_enter Try.func46, Try.ntmps46
  go_wp2_with (at_lookup; refine wpList_map_look_ok _ rfl _ _ 122 rfl 9 3 .i64 law_str Try.underlying122 Try.underlying3 (zero_int _) hm rfl _ _ rfl (key_str (by unfold maxLen; omega)) _ H2.out _ H1.out ?_)
  go_ret2
  exact ⟨rfl, 0, rfl⟩
set_option maxHeartbeats 1600000 in
set_option maxRecDepth 100000 in
theorem anumber_new (own : Nat → Nat) (id idm p : Nat) (s : ByteArray) (L : List ByteArray) (w : World) (h : TabP own id idm w p L) (hid : id ≠ idm) (hs : s.size ≤ 200) (hk : memB L s = false) (hf : L.length < 4096) :
    Calls Try.prog 46 #[.pointer (some ⟨p, 0, none⟩), .string s] w
      (Does own [id, idm] w fun own' e w' => e = .returned (.tuple #[.int .i64 L.length, .int .i64 0]) ∧ TabP own' id idm w' p (L ++ [s])) := by
  have hnn := (h.names).num s
  obtain ⟨v, bm, D, hb, hr, hm, ht, hn⟩ := h
  have c0 := hb.cell 0 rfl
  have c1 := hb.cell 1 rfl
  obtain ⟨A, cap, rfl, hc⟩ := hr.form
  have h1 := (ht s).1
  have h2 := (ht s).2
  have h3 := ht.put hm.1.isMap s hk
  rw [hk] at h1
  have H1 := Lib.hid h1
  have H2 := Lib.hid h2
  have hnum : numL L s = L ++ [s] := by unfold numL; rw [if_neg (by omega), if_neg (by simp [hk]), if_neg (by omega)]
  rw [hnum] at hnn
  have hz : (s.size : Int) ≤ 200 := by omega
  have hq : ((L.length : Int) == 4096) = false := by simp; omega
  have hq0 : 0 ≤ (L.length : Int) := by omega
  have HK := Lib.hid hk
  clear h1 h2 hn hk hnum
  go_enter Try.func46, Try.ntmps46
  go_wp2_with (at_lookup; refine wpList_map_look_ok _ rfl _ _ 122 rfl 9 3 .i64 law_str Try.underlying122 Try.underlying3 (zero_int _) hm rfl _ _ rfl (key_str (by unfold maxLen; omega)) _ H2.out _ H1.out ?_)
  go_still_tail 10, (by kernel_rfl)
  change wpList _ _ _ _ _ w.drew
  replace hb : Blk own id w.drew p _ _ := hb
  replace hr : Row own id w.drew _ _ _ _ _ := hr
  replace hm : MapOwn own idm w.drew _ _ _ _ _ _ := hm
  have x0 := (Ext.refl own [id, idm] w).drew
  generalize w.drew = W at *
  refine wpList_map_put _ rfl _ _ _ 122 rfl 9 3 law_str Try.underlying122 hm (by unfold maxLen; omega) rfl _ _ _ rfl rfl (key_str (by unfold maxLen; omega)) _ (int_elem _ (by omega) (by omega)) ?_
  intro w1 hm1 x1
  have hb1 := hb.keep x1 (by simpa using hid)
  have hr1 := hr.keep x1 (by simpa using hid)
  replace x1 := x0.trans (x1.mono (by simp))
  clear hb hr hm x0 c0 c1
  have c0 := hb1.cell 0 rfl
  go_wp2_with (at_builtin; refine wpList_append_row rfl _ _ 55 rfl 9 (.string ByteArray.empty) 1 16 Try.underlying55 info_str rfl (by decide) (by decide) rfl rfl rfl (one_cell' _ rfl) hr1 (by omega) ?_)
  intro g cap' w2 own2 hr2 x2 hk2 _
  have hb2 := hk2 p _ _ hb1 (by decide)
  have hm2 := hm1.keep x2 (by simpa using hid.symm)
  clear hk2 hb1 hr1 hm1
  have d0 := hb2.cell 0 rfl
  have f0 := hb2.free 0
  replace x2 := x1.trans (x2.mono (by simp))
  have hbo := hb2.2
  have HBO := Lib.hid hbo
  clear hbo c0 x1
  go_wp2
  go_ret2
  have hne : (Value.slice (some ⟨g, 0, none⟩) (L.length + 1) cap').ownBlock ≠ some p := hr2.ne_blk hb2 (by decide)
  refine ⟨own2, ?_, rfl, _, bm, _, hb2.set 0 _, ?_, ?_, h3, hnn⟩
  · exact x2.setCell _ _ (fun hlt => by show own p ∈ [id, idm]; rw [← x2.own p hlt, HBO.out]; simp)
  · have := hr2.far (p := ⟨p, 0, none⟩) hne (Value.slice (some ⟨g, 0, none⟩) (L.length + 1) cap')
    rw [strs_append, List.length_append]
    exact this
  · rw [List.length_append]
    exact hm2.keep ((Ext.refl own2 [id] w2).setCell ⟨p, 0, none⟩ _ (fun _ => by show own2 p ∈ [id]; rw [HBO.out]; simp)) (by simpa using hid.symm)
theorem anumber_any (own : Nat → Nat) (id idm p : Nat) (s : ByteArray) (L : List ByteArray) (w : World) (h : TabP own id idm w p L) (hid : id ≠ idm) :
    Calls Try.prog 46 #[.pointer (some ⟨p, 0, none⟩), .string s] w
      (Does own [id, idm] w fun own' e w' => e = .returned (.tuple #[.int .i64 (numN L s), .int .i64 (numE L s)]) ∧ TabP own' id idm w' p (numL L s)) := by
  have hfew := h.names.few
  unfold numN numE numL
  by_cases h1 : 200 < s.size
  · simp only [if_pos h1]
    refine (anumber_long own id idm p s L w h h1).mono fun e w' hq => ?_
    obtain ⟨rfl, n, rfl⟩ := hq
    exact ⟨own, (Ext.refl _ _ _).drewN _, rfl, h⟩
  · simp only [if_neg h1]
    by_cases h2 : memB L s = true
    · simp only [if_pos h2]
      refine (anumber_met own id idm p s L w h (by omega) h2).mono fun e w' hq => ?_
      obtain ⟨rfl, n, rfl⟩ := hq
      exact ⟨own, (Ext.refl _ _ _).drewN _, by unfold findN; rw [if_pos h2], h⟩
    · simp only [if_neg h2]
      have h2' : memB L s = false := by simpa using h2
      by_cases h3 : L.length = 4096
      · simp only [if_pos h3]
        refine (anumber_full own id idm p s L w h (by omega) h2' h3).mono fun e w' hq => ?_
        obtain ⟨rfl, n, rfl⟩ := hq
        exact ⟨own, (Ext.refl _ _ _).drewN _, rfl, h⟩
      · simp only [if_neg h3]
        exact anumber_new own id idm p s L w h hid (by omega) h2' (by omega)

set_option maxHeartbeats 1600000 in
set_option maxRecDepth 100000 in
theorem anew_any (own : Nat → Nat) (id idm : Nat) (w : World) (hid : id ≠ idm) : Calls Try.prog 27 #[] w (MadeTab own w id idm) := by
  have hmm := @run_makeMap Try.prog
  have hx0 : Ext own (give own w.heap.size id) [] w (w.alloc (.cells #[.string ⟨#[91, 93]⟩, .string ⟨#[46]⟩] 9)) := ((Ext.refl own [] w).alloc _).give _ _ (Nat.le_refl _)
  have hmap := MapOwn.new (give own w.heap.size id) idm (w.alloc (.cells #[.string ⟨#[91, 93]⟩, .string ⟨#[46]⟩] 9)) Try.prog 9 3
  rw [World.size_alloc] at hmap
  obtain ⟨y1, y2⟩ := hmap
  have hx1 := hx0.trans y1
  have hro : Row (give own w.heap.size id) id (w.alloc (.cells #[.string ⟨#[91, 93]⟩, .string ⟨#[46]⟩] 9)) 9 1 (.slice (some ⟨w.heap.size, 0, none⟩) 2 2) 2 (strs names0) := by
    refine ⟨⟨rfl, Or.inr ⟨_, 2, _, rfl, Nat.zero_le _, heap_alloc_new _ _, by decide, by decide, by decide, ?_⟩⟩, fun k hk => ?_⟩
    · rfl
    · simp [Value.ownBlock] at hk; subst hk; exact give_same _ _ _
  have hro1 := hro.keep y1 (by simp)
  clear hro y1 hx0
  generalize give (give own w.heap.size id) (w.heap.size + 1) idm = o1 at *
  go_enter Try.func27, Try.ntmps27
  go_wp2_with (first | (refine wpList_map_insert _ rfl _ _ _ 122 rfl 9 3 law_str Try.underlying122 hm1 (by decide) rfl _ _ _ rfl rfl (key_str (by decide)) _ (int_elem _ (by decide) (by decide)) ?_; intro w2 hm2 x2 g2) | (refine wpList_map_insert _ rfl _ _ _ 122 rfl 9 3 law_str Try.underlying122 y2 (by decide) rfl _ _ _ rfl rfl (key_str (by decide)) _ (int_elem _ (by decide) (by decide)) ?_; intro w1 hm1 x1 g1))
  go_ret
  have hro2 := (hro1.keep x1 (by simpa using hid)).keep x2 (by simpa using hid)
  have hx2 : Ext own o1 [] w w2 := (hx1.grown g1 (fun k hk hlt => by cases hk; omega)).grown g2 (fun k hk hlt => by cases hk; omega)
  have hsz : w.heap.size ≤ w2.heap.size := hx2.size
  have hN := give_same o1 w2.heap.size id
  have z1 : Ext o1 (give o1 w2.heap.size id) [] w2 (w2.alloc (.cells #[.slice (some ⟨w.heap.size, 0, none⟩) 2 2, .map (some (w.heap.size + 1))] 124)) := ((Ext.refl o1 [] w2).alloc _).give _ _ (Nat.le_refl _)
  refine ⟨give o1 w2.heap.size id, w2.heap.size, hx2.trans z1, rfl, hsz, by simp, _, _, _, ⟨heap_alloc_new _ _, hN⟩, hro2.keep z1 (by simp), hm2.keep z1 (by simp), ?_, names0_ok⟩
  exact (Tells.nil.put Maps.isMap_empty ⟨#[91, 93]⟩ (by decide)).put (Maps.isMap_empty.put _ _) ⟨#[46]⟩ (by decide)

end Go.Proofs.Ytlmcfclonncgbaa
