/- The layer that lays terms (package store): its state; words, variables. -/
import Derived.Test.YtlmcfclonncgbaaCells2
import Derived.Test.YtlmcfclonncgbaaVars
import Derived.Test.YtlmcfclonncgbaaBox
import Derived.Test.YtlmcfclonncgbaaLight
import Derived.Test.YtlmcfclonncgbaaAtoms2
namespace Go.Proofs.Ytlmcfclonncgbaa
open Go.RowKit
set_option linter.unusedVariables false

/-- A todo: a term, its place, laid already, its cell. -/
structure TD where
  t : Tm
  A : Option Addr
  l : Nat
  c : Nat
  at_ : Int
  laid : Bool
  x : Int
def TD.cells (y : TD) : List Value := [.int .i64 y.t.kind, .string y.t.name, .int .i64 y.t.int, .int .u64 y.t.re, .int .u64 y.t.im, .slice y.A y.l y.c, .int .i64 y.at_, .bool y.laid, .int .u64 y.x]
def tdCells (L : List TD) : List Value := L.flatMap TD.cells
theorem tdCells_append (a b : List TD) : tdCells (a ++ b) = tdCells a ++ tdCells b := by simp [tdCells]
theorem tdCells_length (L : List TD) : (tdCells L).length = L.length * 9 := by
  induction L with
  | nil => rfl
  | cons x L ih => simp only [tdCells, List.flatMap_cons, List.length_append] at *; rw [ih]; simp [TD.cells]; omega
theorem info_todo : (Try.prog.info? 127).map (fun i => (i.zero, i.size, i.bytes)) = some (some (.agg #[.int .i64 0, .string ByteArray.empty, .int .i64 0, .int .u64 0, .int .u64 0, .slice none 0 0, .int .i64 0, .bool false, .int .u64 0]), 9, 96) := by kernel_rfl
/-- The variables' cells. -/
abbrev VP (own : Nat → Nat) (id : Nat) (w : World) (p : Nat) (V : List (Int × Int)) : Prop := MV own id w Try.prog .i64 .u64 2 34 p V
theorem zero_cell (w : World) : (zeroValue 34).run Try.prog w = .ok (.int .u64 0) w := by kernel_rfl
/-- The layer's block. -/
def LB (own : Nat → Nat) (idy : Nat) (w : World) (y ph pa mb : Nat) (v : Value) : Prop := Blk own idy w y [.pointer (some ⟨ph, 0, none⟩), .pointer (some ⟨pa, 0, none⟩), .map (some mb), v] 130
/-- A cell, and what was wrong. -/
def retC (r : SS × Int × Int) : Value := .tuple #[.int .u64 r.2.1, .int .i64 r.2.2]
theorem wordsT_ok {most tag : Int} {ws l : List Int} {L : List ByteArray} {V : List (Int × Int)} {l' : List Int} (h : (l', true) = pushWs most l ws) : wordsT most tag ws ⟨l, L, V⟩ = (⟨l', L, V⟩, (l.length : Int) * 8 + tag, 0) := by
  unfold wordsT; rw [← h]; rfl
theorem wordsT_full {most tag : Int} {ws l : List Int} {L : List ByteArray} {V : List (Int × Int)} {l' : List Int} (h : (l', false) = pushWs most l ws) : wordsT most tag ws ⟨l, L, V⟩ = (⟨l', L, V⟩, 0, 4) := by
  unfold wordsT; rw [← h]; rfl
set_option maxRecDepth 100000 in
set_option maxHeartbeats 2000000 in
theorem ywords_any (L : List ByteArray) (V : List (Int × Int)) (own : Nat → Nat) (idh idy y ph pa mb : Nat) (v : Value) (most tag : Int) (l : List Int) (w : World) (hb : LB own idy w y ph pa mb v) (hh : HP own idh w ph most l) (hne : idh ≠ idy) (ht0 : 0 ≤ tag) (ht6 : tag ≤ 6)
    (b0 n : Nat) (ws : List Int) (hws : ws.length = n) (hn : n ≤ 2) (hbw : b0 < w.heap.size) (hob : own b0 ≠ idh) (hc : ∀ j, j < n → w.cell? ⟨b0, j, none⟩ = some (.int .u64 (ws.getD j 0))) :
    Calls Try.prog 122 #[.pointer (some ⟨y, 0, none⟩), .int .i64 tag, .slice (some ⟨b0, 0, none⟩) n n] w
      (Does own [idh] w fun own' e w' => e = .returned (retC (wordsT most tag ws ⟨l, L, V⟩)) ∧ HP own' idh w' ph most (wordsT most tag ws ⟨l, L, V⟩).1.l) := by
  have hlen := hh.len
  have c0 := Blk.cell hb 0 rfl
  have hn' : (n : Int) ≤ 2 := by omega
  go_enter Try.func122, Try.ntmps122
  go_wp2_with (go_at_call 31; refine (len_any own idh ph most l _ hh).mono ?_; rintro e w' ⟨rfl, dn, rfl⟩)
  have HB := Lib.hid hb
  have HC := Lib.hid hc
  have HWS := Lib.hid hws
  have hl0 : (0 : Int) ≤ l.length := by omega
  have hl1 : (l.length : Int) ≤ 1048576 := by omega
  generalize hLL : (l.length : Int) = LL at *
  have HLL := Lib.hid hLL
  clear hb hc hws c0 hlen hLL
  go_loopw [22] (fun v wr => ∃ (k : Nat) (own' : Nat → Nat) (l' : List Int), v = .int .i64 k ∧ k ≤ n ∧ Ext own own' [idh] w wr ∧ HP own' idh wr ph most l' ∧ pushWs most l' (ws.drop k) = pushWs most l ws) (fun v _ => n - (intOf v).toNat)
  case atStart => exact ⟨0, own, l, rfl, by omega, (Ext.refl _ _ _).drewN _, hh.dr _, rfl⟩
  case round =>
    obtain ⟨k, own', l', rfl, hk, x, hh', hinv⟩ := hrel
    by_cases hlt : k < n
    · have hk2 : k < ws.length := by rw [HWS.out]; exact hlt
      have cw := (x.cell (p := ⟨b0, k, none⟩) hbw (by simpa using hob)).trans (HC.out k hlt)
      have ch := Blk.cell (HB.out.keep x (by simpa using hne.symm)) 0 rfl
      have hdrop : ws.drop k = ws.getD k 0 :: ws.drop (k + 1) := by
        rw [List.drop_eq_getElem_cons hk2, List.getD, List.getElem?_eq_getElem hk2]; rfl
      rw [hdrop] at hinv
      simp only [pushWs] at hinv
      clear hdrop
      generalize ws.getD k 0 = u at *
      by_cases hroom : (l'.length : Int) < most
      · rw [if_pos hroom] at hinv
        have HI := Lib.hid hinv
        clear hinv
        go_wp2_with fail
        refine (push_room own' idh ph most u l' _ hh' hroom).mono ?_
        rintro e w2 ⟨own2, x2, rfl, hh2⟩
        go_wp2_with fail
        go_roundw
        case measure => simp [intOf]; omega
        exact ⟨k + 1, own2, _, by go_num, by omega, x.trans x2, hh2, HI.out⟩
      · rw [if_neg hroom] at hinv
        have hfull : (l'.length : Int) = most := by have := hh'.len; omega
        have HI := Lib.hid hinv
        clear hinv hroom
        go_wp2_with fail
        refine (push_full own' idh ph most u l' _ hh' hfull).mono ?_
        rintro e w2 ⟨rfl, m, rfl⟩
        go_wp2_with fail
        go_ret2
        exact ⟨own', x.drewN _, by rw [wordsT_full HI.out]; rfl, by rw [wordsT_full HI.out]; exact hh'.dr _⟩
    · obtain rfl : k = n := by omega
      have hd : ws.drop k = [] := List.drop_eq_nil_of_le (by rw [HWS.out]; exact Nat.le_refl _)
      rw [hd] at hinv
      have hinv' : (l', true) = pushWs most l ws := hinv
      have HI := Lib.hid hinv'
      clear hinv hinv' hd
      go_wp2_with (go_at_call 118; refine (make_ok _ _ _ (by omega) (by omega) (by omega) (by omega)).mono ?_; rintro e w' ⟨rfl, rfl⟩)
      go_ret2
      exact ⟨own', x, by rw [wordsT_ok HI.out, HLL.out]; rfl, by rw [wordsT_ok HI.out]; exact hh'⟩

end Go.Proofs.Ytlmcfclonncgbaa
