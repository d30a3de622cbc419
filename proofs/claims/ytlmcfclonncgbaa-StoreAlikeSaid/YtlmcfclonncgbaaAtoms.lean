/- The table of names (package atoms), each call by a contract: what it answers, what becomes of the names. -/
import Derived.Test.YtlmcfclonncgbaaMaps
import Derived.Test.YtlmcfclonncgbaaNames
import Derived.Test.YtlmcfclonncgbaaHeap
import Derived.StillTailTactics
import Derived.Outline
namespace Go.Proofs.Ytlmcfclonncgbaa
open Go.RowKit
set_option linter.unusedVariables false

open Go.Maps (Keyed string_keyed int_keyed)
theorem info_str : (Try.prog.info? 9).map (fun i => (i.zero, i.size, i.bytes)) = some (some (.string ByteArray.empty), 1, 16) := by kernel_rfl
theorem law_str : Keyed Try.prog 9 := string_keyed Try.underlying9
theorem zero_int (w : World) : (zeroValue 3).run Try.prog w = .ok (.int .i64 0) w := by kernel_rfl
theorem int_elem (n : Int) (h0 : -9223372036854775808 ≤ n) (h1 : n ≤ 9223372036854775807) : plainElem (H := Unit) Try.prog 3 (.int .i64 n) = some (.lit (.int .i64 n), []) :=
  plainElem_int Try.underlying3 (WalkArith.wf_i64 (by omega))
/-- A name as a key. -/
def nameK (s : ByteArray) : Lit := .string s.data.toList
theorem nameK_inj {s t : ByteArray} (h : nameK s = nameK t) : s = t := by
  unfold nameK at h
  simp only [Lit.string.injEq] at h
  cases s; cases t
  simp at h
  subst h; rfl
theorem nameK_key (s : ByteArray) : WideAt.IsKeyLit (nameK s) := trivial
theorem key_str {s : ByteArray} (h : s.size ≤ maxLen) : keyOf Try.prog 9 (.string s) = some (nameK s) := _root_.Go.WideMaps.keyOf_string_mk Try.underlying9 h
/-- Two strings as the walk holds them against each other. -/
theorem str_eq (x s : ByteArray) : (x.toList == s.toList) = decide (x = s) := by
  rw [Bool.eq_iff_iff, beq_iff_eq, decide_eq_true_iff, ByteArray.toList_eq, ByteArray.toList_eq]
  exact ⟨fun h => WideShapes.bytes_inj h, fun h => by rw [h]⟩
theorem str_same (x : ByteArray) : (x.toList == x.toList) = true := by rw [str_eq]; simp
theorem str_ne {x s : ByteArray} (h : x ≠ s) : (x.toList == s.toList) = false := by rw [str_eq]; simpa using h
def strs (L : List ByteArray) : List Value := L.map Value.string
theorem strs_get {L : List ByteArray} {j : Nat} {s : ByteArray} (h : L[j]? = some s) : (strs L)[j]? = some (.string s) := by simp [strs, h]
theorem strs_append (L M : List ByteArray) : strs (L ++ M) = strs L ++ strs M := by simp [strs]
theorem strs_length (L : List ByteArray) : (strs L).length = L.length := by simp [strs]

/-- The number of a name, 0 if it has none. -/
def findN (L : List ByteArray) (s : ByteArray) : Int := if memB L s then idxL L s else 0
/-- What a map tells of names: each has its place as its number. -/
def Tells (L : List ByteArray) (D : DataW Unit) : Prop := ∀ s, Maps.has D (nameK s) = memB L s ∧ D.atKey (nameK s) (.lit (.int .i64 0)) = .lit (.int .i64 (findN L s))
theorem Tells.nil : Tells [] (.map []) := fun s => ⟨rfl, rfl⟩
theorem Tells.put {L : List ByteArray} {D : DataW Unit} (h : Tells L D) (hD : Maps.IsMap D) (s : ByteArray) (hn : memB L s = false) : Tells (L ++ [s]) (D.put (nameK s) (.lit (.int .i64 L.length))) := by
  intro x
  unfold findN
  rw [memB_append, memB_one]
  by_cases e : x = s
  · subst e
    rw [Maps.has_put_same hD (nameK_key x), Maps.atKey_put_same hD (nameK_key x), idxL_new L x hn]
    simp
  · have hne : nameK x ≠ nameK s := fun h => e (nameK_inj h)
    rw [Maps.has_put_other hne, Maps.atKey_put_other hne, (h x).1, (h x).2]
    unfold findN
    simp only [e, decide_false, Bool.or_false, true_and]
    by_cases hm : memB L x = true
    · rw [if_pos hm, if_pos hm, idxL_append]
      simpa [memB] using hm
    · rw [if_neg hm, if_neg hm]

/-- A table at block p: its names; the struct and the names are id's, the map idm's. -/
def TabP (own : Nat → Nat) (id idm : Nat) (w : World) (p : Nat) (L : List ByteArray) : Prop :=
  ∃ v bm D, Blk own id w p [v, .map (some bm)] 124 ∧ Row own id w 9 1 v L.length (strs L) ∧ MapOwn own idm w Try.prog 9 3 bm L.length D ∧ Tells L D ∧ Names L
theorem TabP.keep {own own' : Nat → Nat} {id idm p : Nat} {ids : List Nat} {w w' : World} {L : List ByteArray} (h : TabP own id idm w p L) (x : Ext own own' ids w w') (hi : id ∉ ids) (hj : idm ∉ ids) : TabP own' id idm w' p L := by
  obtain ⟨v, bm, D, hb, hr, hm, ht, hn⟩ := h
  exact ⟨v, bm, D, hb.keep x hi, hr.keep x hi, hm.keep x hj, ht, hn⟩
theorem TabP.dr {own : Nat → Nat} {id idm p : Nat} {w : World} {L : List ByteArray} (h : TabP own id idm w p L) (n : Nat) : TabP own id idm (w.drewN n) p L := h
theorem TabP.names {own : Nat → Nat} {id idm p : Nat} {w : World} {L : List ByteArray} (h : TabP own id idm w p L) : Names L := by
  obtain ⟨v, bm, D, hb, hr, hm, ht, hn⟩ := h; exact hn
theorem names0_ok : Names names0 := ⟨by decide, by decide, by decide, by decide⟩

def MadeTab (own : Nat → Nat) (w : World) (id idm : Nat) (e : Ending) (w' : World) : Prop :=
  ∃ own' p, Ext own own' [] w w' ∧ e = .returned (.pointer (some ⟨p, 0, none⟩)) ∧ w.heap.size ≤ p ∧ p < w'.heap.size ∧ TabP own' id idm w' p names0

theorem alen_any (own : Nat → Nat) (id idm p : Nat) (L : List ByteArray) (w : World) (h : TabP own id idm w p L) : Calls Try.prog 41 #[.pointer (some ⟨p, 0, none⟩)] w (Quiet w (.int .i64 L.length)) := by
  obtain ⟨v, bm, D, hb, hr, hm, ht, hn⟩ := h
  have c0 := hb.cell 0 rfl
  obtain ⟨A, cap, rfl, hc⟩ := hr.form
  clear hm ht hn
  go_enter Try.func41, Try.ntmps41
  go_wp2_with fail
  go_ret
  exact ⟨rfl, 0, rfl⟩
theorem alen_nil (w : World) : Calls Try.prog 41 #[.pointer none] w (Quiet w (.int .i64 0)) := by
  go_enter Try.func41, Try.ntmps41
  go_wp2_with fail
  go_ret
  exact ⟨rfl, 0, rfl⟩
theorem aname_nil (n : Int) (w : World) : Calls Try.prog 161 #[.pointer none, .int .i64 n] w (Quiet w (.tuple #[.string ByteArray.empty, .bool false])) := by
  by_cases h0 : n < 0
  · go_enter Try.func161, Try.ntmps161
    go_wp2_with fail
    go_ret2
    exact ⟨rfl, 0, rfl⟩
  · have h1 : 0 ≤ n := by omega
    go_enter Try.func161, Try.ntmps161
    go_wp2_with (go_at_call 41; refine (alen_nil _).mono ?_; rintro e w' ⟨rfl, n, rfl⟩)
    go_ret2
    exact ⟨rfl, _, rfl⟩
theorem anumber_nil (s : ByteArray) (w : World) : Calls Try.prog 46 #[.pointer none, .string s] w (Quiet w (.tuple #[.int .i64 0, .int .i64 1])) := by
  go_enter Try.func46, Try.ntmps46
  go_wp2_with fail
  go_ret2
  exact ⟨rfl, 0, rfl⟩
theorem aname_out (own : Nat → Nat) (id idm p : Nat) (n : Int) (L : List ByteArray) (w : World) (h : TabP own id idm w p L) (ho : n < 0 ∨ (L.length : Int) ≤ n) :
    Calls Try.prog 161 #[.pointer (some ⟨p, 0, none⟩), .int .i64 n] w (Quiet w (.tuple #[.string ByteArray.empty, .bool false])) := by
  rcases ho with h0 | h0
  · go_enter Try.func161, Try.ntmps161
    go_wp2_with fail
    go_ret2
    exact ⟨rfl, 0, rfl⟩
  · have h1 : 0 ≤ n := by omega
    go_enter Try.func161, Try.ntmps161
    go_wp2_with (go_at_call 41; refine (alen_any own id idm p L _ h).mono ?_; rintro e w' ⟨rfl, n, rfl⟩)
    go_ret2
    exact ⟨rfl, _, rfl⟩
theorem aname_in (own : Nat → Nat) (id idm p j : Nat) (s : ByteArray) (L : List ByteArray) (w : World) (h : TabP own id idm w p L) (hj : L[j]? = some s) :
    Calls Try.prog 161 #[.pointer (some ⟨p, 0, none⟩), .int .i64 j] w (Quiet w (.tuple #[.string s, .bool true])) := by
  have hln := alen_any own id idm p L w h
  have HL := Lib.hid hln
  obtain ⟨v, bm, D, hb, hr, hm, ht, hn⟩ := h
  have c0 := hb.cell 0 rfl
  have hlt := (List.getElem?_eq_some_iff.1 hj).1
  obtain ⟨g, cap, rfl, hc⟩ := hr.form_pos (by omega)
  have cj := hr.cell j (strs_get hj)
  have h0 : (0 : Int) ≤ j := by omega
  have h1 : (j : Int) < L.length := by omega
  have HJ := Lib.hid hj
  clear hm ht hn hln hj
  go_enter Try.func161, Try.ntmps161
  go_wp2_with (go_at_call 41; refine HL.out.mono ?_; rintro e w' ⟨rfl, n, rfl⟩)
  go_ret2
  exact ⟨rfl, _, rfl⟩

end Go.Proofs.Ytlmcfclonncgbaa
