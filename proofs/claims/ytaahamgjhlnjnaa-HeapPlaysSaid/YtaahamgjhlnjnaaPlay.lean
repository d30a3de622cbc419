/- The calls of a script on a heap (elenchuslaw5.HeapApart's play): what becomes of the cells. -/
import Derived.Test.YtaahamgjhlnjnaaAwake5
import Derived.Test.YtaahamgjhlnjnaaCame
namespace Go.Proofs.Ytaahamgjhlnjnaa
open Go.RowKit
set_option linter.unusedVariables false

theorem HP.alloc {own : Nat → Nat} {id p : Nat} {w : World} {most : Int} {l : List Int} (h : HP own id w p most l) (o : Obj) : HP own id (w.alloc o) p most l := by
  obtain ⟨v, hb, hr, h1, h2⟩ := h
  exact ⟨v, hb.alloc o, hr.alloc o, h1, h2⟩
theorem Came.call {len cap b o : Nat} {w w' : World} {xs : List GCall} (h : Came RCall 3 w (some ⟨b, o, none⟩) len cap xs) (hb : Below w.heap.size w w') (k : Nat) (hk : k < len) :
    ∃ x, xs[k]? = some x ∧ w'.cell? ⟨b, o + k * 3, none⟩ = some (.int .i64 x.dom) ∧ w'.cell? ⟨b, o + k * 3 + 1, none⟩ = some (.int .i64 x.at_) ∧ w'.cell? ⟨b, o + k * 3 + 2, none⟩ = some (.int .u64 x.c) ∧
      (-9223372036854775808 ≤ x.dom ∧ x.dom ≤ 9223372036854775807) ∧ (-9223372036854775808 ≤ x.at_ ∧ x.at_ ≤ 9223372036854775807) ∧ 0 ≤ x.c ∧ x.c < 18446744073709551616 := by
  have hk' : k < xs.length := by rw [h.length]; exact hk
  obtain ⟨b', o', cs, he, ⟨rfl, hR⟩, _, hc⟩ := h.cell hb k _ (List.getElem?_eq_getElem hk')
  simp at he
  obtain ⟨rfl, rfl⟩ := he
  exact ⟨_, List.getElem?_eq_getElem hk', hc 0 _ rfl, hc 1 _ rfl, hc 2 _ rfl, hR⟩
theorem Came.call_range {len cap : Nat} {A : Option Addr} {w : World} {xs : List GCall} (h : Came RCall 3 w A len cap xs) : ∀ x ∈ xs, 0 ≤ x.c ∧ x.c < 18446744073709551616 := by
  intro x hx
  obtain ⟨i, hi⟩ := List.getElem?_of_mem hx
  obtain ⟨_, _, _, _, _, hR, _⟩ := h.el i x hi
  exact hR.2.2.2

/-- A block of the call's own: a box. -/
theorem Ext.box {o o' : Nat → Nat} {ids : List Nat} {w w' : World} (h : Ext o o' ids w w') (cs : List Value) (t id : Nat) :
    Ext o (_root_.Go.Proofs.Ytaahamgjhlnjnaa.give o' w'.heap.size id) ids w (w'.alloc (.cells cs.toArray t)) ∧ Blk (_root_.Go.Proofs.Ytaahamgjhlnjnaa.give o' w'.heap.size id) id (w'.alloc (.cells cs.toArray t)) w'.heap.size cs t ∧ Ext o' (_root_.Go.Proofs.Ytaahamgjhlnjnaa.give o' w'.heap.size id) [] w' (w'.alloc (.cells cs.toArray t)) := by
  have hb : Blk (_root_.Go.Proofs.Ytaahamgjhlnjnaa.give o' w'.heap.size id) id (w'.alloc (.cells cs.toArray t)) w'.heap.size cs t := ⟨heap_alloc_new _ _, give_same _ _ _⟩
  exact ⟨(h.alloc _).give _ _ h.size, hb, ((Ext.refl o' [] w').alloc _).give _ _ (Nat.le_refl _)⟩

/-- One call of a script. -/
def stepL (most : Int) (l : List Int) (x : GCall) : List Int :=
  if x.dom = 0 then pushL most l x.c else if x.dom = 1 then pushL most l (l.length * 8) else if x.dom = 2 then setL l x.at_ x.c else if x.dom = 3 then cutL l x.at_ else l
def playL (most : Int) (l : List Int) (xs : List GCall) : List Int := xs.foldl (stepL most) l
theorem playL_succ (most : Int) (l : List Int) (xs : List GCall) (k : Nat) (x : GCall) (h : xs[k]? = some x) : playL most l (xs.take (k + 1)) = stepL most (playL most l (xs.take k)) x := by
  obtain ⟨hk, rfl⟩ := List.getElem?_eq_some_iff.1 h
  unfold playL
  rw [List.take_succ_eq_append_getElem hk, List.foldl_append]
  rfl

set_option maxHeartbeats 3200000 in
set_option maxRecDepth 100000 in
theorem play_any (own : Nat → Nat) (id p : Nat) (most : Int) (l : List Int) (w : World) (h : HP own id w p most l) (hid : id ≠ 0) (A : Option Addr) (len cap : Nat) (xs : List GCall) (w0 : World) (hc : Came RCall 3 w0 A len cap xs)
    (hw : Below w0.heap.size w0 w) (h0 : ∀ b, b < w0.heap.size → own b = 0) :
    Calls Try.prog 68 #[.pointer (some ⟨p, 0, none⟩), .slice A len cap] w
      (Does own [id] w fun own' e w' => e = .returned (.tuple #[]) ∧ HP own' id w' p most (playL most l (xs.take 60))) := by
  have hmax := hc.max
  have hle := hc.le
  unfold maxLen at hmax
  have hlen := hc.length
  have HL := Lib.hid hlen
  clear hlen
  have hws := hw.size
  have hb0 := fun (own' : Nat → Nat) (wr : World) (x : Ext own own' [id] w wr) => hw.trans (x.came hws h0 (by simpa using hid.symm))
  have HB := Lib.hid hb0
  clear hb0
  go_enter Try.func68, Try.ntmps68
  go_wp2_with fail
  go_loopw [8] (fun v wr => ∃ (k : Nat) (own' : Nat → Nat), v = .int .i64 k ∧ k ≤ len ∧ k ≤ 60 ∧ Ext own own' [id] w wr ∧ HP own' id wr p most (playL most l (xs.take k))) (fun v _ => len - (intOf v).toNat)
  case atStart => exact ⟨0, own, rfl, by omega, by omega, Ext.refl _ _ _, h⟩
  case round =>
    obtain ⟨k, own', rfl, hk, hk1, x, hp⟩ := hrel
    by_cases hlt : k < len
    · obtain ⟨b, o, rfl⟩ := hc.addr (by omega)
      obtain ⟨y, hy, d0, d1, d2, r0, r1, r2⟩ := hc.call (HB.out _ _ x) k hlt
      have hs := playL_succ most l xs k y hy
      have HS := Lib.hid hs
      clear hs hy h
      by_cases h60 : k < 60
      · have h60' : ((k : Int) < 60) := by omega
        go_wp2_with fail
        · refine (push_any own' id p most y.c _ _ (hp.alloc _)).mono ?_
          rintro e w' ⟨own2, x2, rfl, h2⟩
          go_wp2_with fail
          go_roundw
          case measure => simp [intOf]; omega
          have e0 : y.dom = 0 := beq_iff_eq.1 (by assumption)
          exact ⟨k + 1, own2, by go_num, by omega, by omega, (x.alloc _).trans x2, by rw [HS.out]; unfold stepL; rw [if_pos e0]; exact h2⟩
        · refine (var_any own' id p most _ _ (hp.alloc _)).mono ?_
          rintro e w' ⟨own2, x2, rfl, h2⟩
          go_wp2_with fail
          go_roundw
          case measure => simp [intOf]; omega
          have e0 : ¬ y.dom = 0 := beq_eq_false_iff_ne.1 (by assumption)
          have e1 : y.dom = 1 := beq_iff_eq.1 (by assumption)
          exact ⟨k + 1, own2, by go_num, by omega, by omega, (x.alloc _).trans x2, by rw [HS.out]; unfold stepL; rw [if_neg e0, if_pos e1]; exact h2⟩
        · refine (set_any own' id p most y.at_ y.c _ _ (hp.alloc _)).mono ?_
          rintro e w' ⟨own2, x2, rfl, h2⟩
          go_wp2_with fail
          go_roundw
          case measure => simp [intOf]; omega
          have e0 : ¬ y.dom = 0 := beq_eq_false_iff_ne.1 (by assumption)
          have e1 : ¬ y.dom = 1 := beq_eq_false_iff_ne.1 (by assumption)
          have e2 : y.dom = 2 := beq_iff_eq.1 (by assumption)
          exact ⟨k + 1, own2, by go_num, by omega, by omega, (x.alloc _).trans x2, by rw [HS.out]; unfold stepL; rw [if_neg e0, if_neg e1, if_pos e2]; exact h2⟩
        · refine (cut_any own' id p most y.at_ _ _ (hp.alloc _)).mono ?_
          rintro e w' ⟨own2, x2, rfl, h2⟩
          go_wp2_with fail
          go_roundw
          case measure => simp [intOf]; omega
          have e0 : ¬ y.dom = 0 := beq_eq_false_iff_ne.1 (by assumption)
          have e1 : ¬ y.dom = 1 := beq_eq_false_iff_ne.1 (by assumption)
          have e2 : ¬ y.dom = 2 := beq_eq_false_iff_ne.1 (by assumption)
          have e3 : y.dom = 3 := beq_iff_eq.1 (by assumption)
          exact ⟨k + 1, own2, by go_num, by omega, by omega, (x.alloc _).trans x2, by rw [HS.out]; unfold stepL; rw [if_neg e0, if_neg e1, if_neg e2, if_pos e3]; exact h2⟩
        · go_roundw
          case measure => simp [intOf]; omega
          have e0 : ¬ y.dom = 0 := beq_eq_false_iff_ne.1 (by assumption)
          have e1 : ¬ y.dom = 1 := beq_eq_false_iff_ne.1 (by assumption)
          have e2 : ¬ y.dom = 2 := beq_eq_false_iff_ne.1 (by assumption)
          have e3 : ¬ y.dom = 3 := beq_eq_false_iff_ne.1 (by assumption)
          exact ⟨k + 1, own', by go_num, by omega, by omega, x.alloc _, by rw [HS.out]; unfold stepL; rw [if_neg e0, if_neg e1, if_neg e2, if_neg e3]; exact hp.alloc _⟩
      · have h60' : (60 : Int) ≤ k := by omega
        go_wp2_with fail
        go_end0
        obtain rfl : k = 60 := by omega
        exact ⟨own', x.alloc _, rfl, hp.alloc _⟩
    · go_wp2_with fail
      go_end0
      refine ⟨own', x, rfl, ?_⟩
      have e1 : xs.take k = xs.take 60 := by rw [List.take_of_length_le (by rw [HL.out]; omega), List.take_of_length_le (by rw [HL.out]; omega)]
      rw [← e1]; exact hp

end Go.Proofs.Ytaahamgjhlnjnaa
