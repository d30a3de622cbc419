/- The reference's trail (elenchusref4), Set by a contract. -/
import Derived.Test.YtaahamgjhlnjnaaRHeap
import Derived.Test.YtaahamgjhlnjnaaTrailSet
import Derived.Test.YtaahamgjhlnjnaaTrail2
import Derived.Deep.RegionLaw
import Derived.BigRegion
import Derived.Deep.DeepCutAuto
import Derived.Deep.CutBlock
import Derived.Outline
namespace Go.Proofs.Ytaahamgjhlnjnaa
open Go.RowKit
set_option linter.unusedVariables false

theorem info_write : (Try.prog.info? 119).map (fun i => (i.zero, i.size, i.bytes)) = some (some (.agg #[.int .i64 0, .int .u64 0]), 2, 16) := by kernel_rfl
/-- Entries as cells. -/
def writes (L : List (Int × Int)) : List Value := L.flatMap (fun e => [.int .i64 e.1, .int .u64 e.2])
theorem writes_length (L : List (Int × Int)) : (writes L).length = L.length * 2 := by
  induction L with
  | nil => rfl
  | cons x xs ih => simp only [writes, List.flatMap_cons, List.length_append, List.length_cons, List.length_nil] at ih ⊢; omega
theorem writes_append (L M : List (Int × Int)) : writes (L ++ M) = writes L ++ writes M := by simp [writes, List.flatMap_append]
theorem writes_get (L : List (Int × Int)) (j : Nat) (h : j < L.length) : (writes L)[j * 2]? = some (.int .i64 (L.getD j (0, 0)).1) ∧ (writes L)[j * 2 + 1]? = some (.int .u64 (L.getD j (0, 0)).2) := by
  induction L generalizing j with
  | nil => simp at h
  | cons x xs ih =>
    cases j with
    | zero => exact ⟨rfl, rfl⟩
    | succ j =>
      have := ih j (by simpa using h)
      have e1 : (j + 1) * 2 = j * 2 + 1 + 1 := by omega
      rw [e1]
      show (_ :: _ :: writes xs)[j * 2 + 1 + 1]? = _ ∧ (_ :: _ :: writes xs)[j * 2 + 1 + 1 + 1]? = _
      simp only [List.getElem?_cons_succ]
      simpa using this
theorem writes_take (L : List (Int × Int)) (j : Nat) : (writes L).take (j * 2) = writes (L.take j) := by
  induction L generalizing j with
  | nil => simp [writes]
  | cons x xs ih =>
    cases j with
    | zero => rfl
    | succ j =>
      have e1 : (j + 1) * 2 = j * 2 + 1 + 1 := by omega
      rw [e1]
      show (_ :: _ :: writes xs).take (j * 2 + 1 + 1) = _
      simp only [List.take_succ_cons, ih]
      rfl
/-- A trail of the reference's at block p. -/
def RT (own : Nat → Nat) (id : Nat) (w : World) (p : Nat) (L : List (Int × Int)) : Prop :=
  ∃ v, Blk own id w p [v] 102 ∧ Row own id w 119 2 v L.length (writes L)
theorem RT.keep {own own' : Nat → Nat} {id p : Nat} {ids : List Nat} {w w' : World} {L : List (Int × Int)} (h : RT own id w p L) (x : Ext own own' ids w w') (hi : id ∉ ids) : RT own' id w' p L := by
  obtain ⟨v, hb, hr⟩ := h
  exact ⟨v, hb.keep x hi, hr.keep x hi⟩
theorem RT.dr {own : Nat → Nat} {id p : Nat} {w : World} {L : List (Int × Int)} (h : RT own id w p L) (n : Nat) : RT own id (w.drewN n) p L := h
theorem rset_end6 {own : Nat → Nat} {id p gg cap j : Nat} {most c : Int} {l : List Int} {w : World} (hb : Blk own id w p [.slice (some ⟨gg, 0, none⟩) l.length cap, .int .i64 most] 106) (hr : Row own id w 24 1 (.slice (some ⟨gg, 0, none⟩) l.length cap) l.length (words l))
    (h1 : (l.length : Int) ≤ most) (h2 : most ≤ 1048576) : Ext own own [id] w (w.setCell ⟨gg, j, none⟩ (.int .u64 c)) ∧ RH own id (w.setCell ⟨gg, j, none⟩ (.int .u64 c)) p most (l.set j c) := by
  have hne := hr.ne_blk hb (by decide)
  refine ⟨(Ext.refl own [id] w).setCell _ _ (fun _ => by show own gg ∈ [id]; rw [hr.2 gg rfl]; simp), _, (hb.far (p := ⟨gg, j, none⟩) (fun e => hne (by simp [Value.ownBlock]; exact e)) _), ?_, by simpa using h1, h2⟩
  have := hr.set j (Value.int .u64 c)
  rw [words_set] at this
  rw [List.length_set]
  exact this
theorem news_two {W : World} {b : Nat} {y z : Value} (h : W.cell? ⟨b, 0, none⟩ = some y) (h1 : W.cell? ⟨b, 1, none⟩ = some z) : ∀ j u, ([y, z] : List Value)[j]? = some u → W.cell? ((⟨b, 0, none⟩ : Addr).add j) = some u := by
  intro j u hj
  match j, hj with
  | 0, hj => simp at hj; subst hj; simpa [Addr.add] using h
  | 1, hj => simp at hj; subst hj; simpa [Addr.add] using h1
theorem two_cells (a c : Int) : ∀ u ∈ ([.int .i64 a, .int .u64 c] : List Value), u.oneCell' = true := by
  intro u hu; simp at hu; rcases hu with rfl | rfl <;> rfl
theorem box2 (W : World) (y z : Value) (t : TypeId) : (W.alloc (.cells #[y, z] t)).cell? ⟨W.heap.size, 0, none⟩ = some y ∧ (W.alloc (.cells #[y, z] t)).cell? ⟨W.heap.size, 1, none⟩ = some z := by
  constructor <;> (rw [cell_of_row _ _ _ _ _ _ (heap_alloc_new W (.cells #[y, z] t))]; rfl)
theorem rtset_end {own own1 : Nat → Nat} {id p g cap : Nat} {v : Value} {W w1 : World} {L : List (Int × Int)} {a c : Int} (x : Ext own own1 [id] W w1) (ho : own p = id) (hb : Blk own1 id w1 p [v] 102)
    (hr : Row own1 id w1 119 2 (.slice (some ⟨g, 0, none⟩) (L.length + 1) cap) (L.length + 1) (writes L ++ [.int .i64 a, .int .u64 c])) :
    ∃ own', Ext own own' [id] W (w1.setCell ⟨p, 0, none⟩ (.slice (some ⟨g, 0, none⟩) (L.length + 1) cap)) ∧ RT own' id (w1.setCell ⟨p, 0, none⟩ (.slice (some ⟨g, 0, none⟩) (L.length + 1) cap)) p (L ++ [(a, c)]) := by
  have n1 := hr.ne_blk hb (by decide)
  refine ⟨own1, x.setCell _ _ (fun _ => by show own p ∈ [id]; rw [ho]; simp), _, hb.set 0 _, ?_⟩
  rw [writes_append, List.length_append]
  exact hr.far (p := ⟨p, 0, none⟩) n1 _

set_option maxHeartbeats 3200000 in
set_option maxRecDepth 100000 in
theorem rtset_in (own : Nat → Nat) (idh id ph p : Nat) (most at_ c : Int) (l : List Int) (L : List (Int × Int)) (w : World) (hh : RH own idh w ph most l) (h : RT own id w p L) (hid : idh ≠ id) (h0 : 0 ≤ at_) (hlt : at_ < l.length) (hL : L.length < 1000000000) :
    Calls Try.prog 70 #[.pointer (some ⟨p, 0, none⟩), .pointer (some ⟨ph, 0, none⟩), .int .i64 at_, .int .u64 c] w
      (Does own [idh, id] w fun own' e w' => e = .returned (.bool true) ∧ RH own' idh w' ph most (l.set at_.toNat c) ∧ RT own' id w' p (L ++ [(at_, l.getD at_.toNat 0)])) := by
  obtain ⟨j, rfl⟩ := Int.eq_ofNat_of_zero_le h0
  have hh' := hh
  obtain ⟨vh, hbh, hrh, m1, m2⟩ := hh'
  obtain ⟨gg, capc, rfl, hcc⟩ := hrh.form_pos (by omega)
  obtain ⟨v, hb, hr⟩ := h
  obtain ⟨A, cap, rfl, hc⟩ := hr.form
  rw [Int.toNat_natCast]
  have ck := hrh.cell j (words_get l j (by omega))
  generalize hx : l.getD j 0 = x at *
  have c0 := hbh.cell 0 rfl
  have t0 := hb.cell 0 rfl
  have s0 := hb.free 0
  clear hx
  have hjl : (j : Int) < l.length := hlt
  have lp := hb.lt
  have lh := hbh.lt
  have lg : gg < w.heap.size := hrh.lt gg rfl
  go_enter Try.func70, Try.ntmps70
  go_wp2_with fail
  go_cut [] (fun wc => ∃ own', Ext own own' [id] w wc ∧ RT own' id wc p (L ++ [((j : Int), x)]))
  case first =>
    go_region_law (refine step_append_later rfl (.tmp 24) (.tmp 34) 100 rfl 119 (.agg #[.int .i64 0, .int .u64 0]) 2 16 Try.underlying100 info_write rfl (by decide) (by decide) rfl ⟨w.heap.size, 0, none⟩ rfl (ys := [.int .i64 (j : Int), .int .u64 x]) rfl (two_cells _ _) hr ?_ ?_ ?_ ?_; (first | exact Below.refl _ _ | exact (Below.refl _ _).alloc (Nat.le_refl _) _ | exact ((Below.refl _ _).alloc (Nat.le_refl _) _).drew); (first | exact news_two (box2 _ _ _ _).1 (box2 _ _ _ _).2); omega; intro g1 cap1 wA ownA hrA xA bA rA sA; have hbA := bA _ _ _ hb (by decide); have fA := hbA.free 0; have dA := hbA.cell 0 rfl)
    all_goals (go_wp2_with fail; go_meet)
    all_goals exact rtset_end xA hb.2 hbA hrA
  case rest =>
    obtain ⟨own1, y1, hT⟩ := hcut
    have hbh1 := hbh.keep y1 (by simpa using hid)
    have hrh1 := hrh.keep y1 (by simpa using hid)
    have c1 := hbh1.cell 0 rfl
    have ck1 := hrh1.free j
    have ck2 := hrh1.cell j (words_get l j (by omega))
    clear c0 t0 s0 ck hb hr hbh hrh hh
    go_wp2_with fail
    go_ret
    obtain ⟨z1, z2⟩ := rset_end6 (j := j) (c := c) hbh1 hrh1 m1 m2
    exact ⟨own1, (y1.mono (by simp)).trans (z1.mono (by simp)), rfl, z2, hT.keep z1 (by simpa using hid.symm)⟩
theorem rtset_out (own : Nat → Nat) (idh ph : Nat) (t : Option Addr) (most at_ c : Int) (l : List Int) (w : World) (hh : RH own idh w ph most l) (hlt : at_ < 0 ∨ (l.length : Int) ≤ at_) :
    Calls Try.prog 70 #[.pointer t, .pointer (some ⟨ph, 0, none⟩), .int .i64 at_, .int .u64 c] w (Quiet w (.bool false)) := by
  obtain ⟨vh, hbh, hrh, m1, m2⟩ := hh
  obtain ⟨A, capc, rfl, hcc⟩ := hrh.form
  have c0 := hbh.cell 0 rfl
  rcases hlt with h | h
  · go_enter Try.func70, Try.ntmps70
    go_wp2_with fail
    go_ret
    exact ⟨rfl, 0, rfl⟩
  · have h1 : 0 ≤ at_ := by omega
    go_enter Try.func70, Try.ntmps70
    go_wp2_with fail
    go_ret
    exact ⟨rfl, 0, rfl⟩
theorem rtset_any (own : Nat → Nat) (idh id ph p : Nat) (most at_ c : Int) (l : List Int) (L : List (Int × Int)) (w : World) (hh : RH own idh w ph most l) (h : RT own id w p L) (hid : idh ≠ id) (hL : L.length < 1000000000) :
    Calls Try.prog 70 #[.pointer (some ⟨p, 0, none⟩), .pointer (some ⟨ph, 0, none⟩), .int .i64 at_, .int .u64 c] w
      (Does own [idh, id] w fun own' e w' => e = .returned (.bool (inB l at_)) ∧ RH own' idh w' ph most (setL l at_ c) ∧ RT own' id w' p (keptL l L at_)) := by
  by_cases hi : 0 ≤ at_ ∧ at_ < l.length
  · have := rtset_in own idh id ph p most at_ c l L w hh h hid hi.1 hi.2 hL
    unfold setL keptL; rw [inB_true hi.1 hi.2]; simpa using this
  · refine (rtset_out own idh ph _ most at_ c l w hh (by omega)).mono fun e w' hq => ?_
    obtain ⟨rfl, n, rfl⟩ := hq
    unfold setL keptL; rw [inB_false (by omega)]
    exact ⟨own, (Ext.refl _ _ _).drewN _, rfl, hh, h⟩

end Go.Proofs.Ytaahamgjhlnjnaa
