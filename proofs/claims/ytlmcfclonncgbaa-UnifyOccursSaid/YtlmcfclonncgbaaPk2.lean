/- Texts that stand together: Cells2, Maps, Names, Put, Vars, Atoms, Atoms2, PutS. -/
import Derived.Test.YtlmcfclonncgbaaPk1
import Derived.Maps.OwnSet
import Derived.WalkKit
import Derived.StillTailTactics
import Derived.Outline
/- More of the cells' calls (package cell, and the reference's): small numbers, functors: each by a contract. -/
namespace Go.Proofs.Ytlmcfclonncgbaa
open Go.RowKit
set_option linter.unusedVariables false

open Go.RowKit
/-- A number as it stands in a cell. -/
def intC (c : Int) : Int := wrap64 c / 8
theorem small_any (n : Int) (w : World) (h0 : -9223372036854775808 ≤ n) (h1 : n ≤ 9223372036854775807) :
    Calls Try.prog 121 #[.int .i64 n] w fun e w' => e = .returned (.tuple #[.int .u64 (if isSmall n then smallC n else 0), .bool (decide (isSmall n))]) ∧ w' = w := by
  by_cases h : isSmall n
  · rw [if_pos h, decide_eq_true h]
    obtain ⟨h2, h3⟩ := h
    have h3' : n ≤ 1152921504606846975 := by omega
    go_enter Try.func121, Try.ntmps121
    go_wp2
    go_ret2
    refine ⟨ret_pair ?_, rfl⟩
    rw [or3 _ _ (by rw [wrap_u64]; omega) (by rw [wrap_u64]; omega) (by rw [wrap_u64, wrap_u64]; omega) (by omega) (by omega), wrap_u64, wrap_u64]
    unfold smallC
    omega
  · rw [if_neg h, decide_eq_false h]
    unfold isSmall at h
    by_cases h2 : n < -1152921504606846976
    · go_enter Try.func121, Try.ntmps121
      go_wp2
      go_ret2
      exact ⟨rfl, rfl⟩
    · have h2' : -1152921504606846976 ≤ n := by omega
      have h3 : 1152921504606846975 < n := by omega
      go_enter Try.func121, Try.ntmps121
      go_wp2
      go_ret2
      exact ⟨rfl, rfl⟩
theorem int_any (c : Int) (w : World) : Calls Try.prog 130 #[.int .u64 c] w fun e w' => e = .returned (.int .i64 (intC c)) ∧ w' = w := by
  go_enter Try.func130, Try.ntmps130
  go_wp2
  go_ret
  exact ⟨rfl, rfl⟩
theorem rint_any (c : Int) (w : World) : Calls Try.prog 137 #[.int .u64 c] w fun e w' => e = .returned (.int .i64 (intC c)) ∧ w' = w := by
  go_enter Try.func137, Try.ntmps137
  go_wp2
  go_ret
  exact ⟨rfl, rfl⟩
theorem functor_any (i n : Nat) (w : World) (hi : i < 4096) (h1 : 1 ≤ n) (h2 : n ≤ 20) :
    Calls Try.prog 159 #[.int .i64 i, .int .i64 n] w fun e w' => e = .returned (.tuple #[.int .u64 (funC i n), .bool true]) ∧ w' = w := by
  unfold funC
  generalize ha : (i : Int) = a
  generalize hk : (n : Int) = k
  have a0 : 0 ≤ a := by omega
  have a1 : a < 4096 := by omega
  have k0 : 1 ≤ k := by omega
  have k1 : k ≤ 20 := by omega
  clear hi h1 h2 ha hk
  go_enter Try.func159, Try.ntmps159
  go_wp2_with (go_at_call 118; refine (make_ok _ _ _ (by omega) (by omega) (by omega) (by omega)).mono ?_; rintro e w' ⟨rfl, rfl⟩)
  go_ret2
  exact ⟨rfl, rfl⟩
theorem rfunctor_any (i n : Nat) (w : World) (hi : i < 4096) (h1 : 1 ≤ n) (h2 : n ≤ 20) :
    Calls Try.prog 125 #[.int .i64 i, .int .i64 n] w fun e w' => e = .returned (.int .u64 (funC i n)) ∧ w' = w := by
  unfold funC
  generalize ha : (i : Int) = a
  generalize hk : (n : Int) = k
  have a0 : 0 ≤ a := by omega
  have a1 : a < 4096 := by omega
  have k0 : 1 ≤ k := by omega
  have k1 : k ≤ 20 := by omega
  clear hi h1 h2 ha hk
  have ho := or8 (a * 256) k (by omega) (by omega) (by omega) (by omega) (by omega)
  go_enter Try.func125, Try.ntmps125
  go_wp2_with fail
  refine (rmake_any _ _ _ (by omega) (by omega) (by omega) (by omega)).mono ?_
  rintro e w' ⟨rfl, rfl⟩
  go_wp2_with fail
  go_ret
  exact ⟨rfl, rfl⟩
theorem rsmall_any (n : Int) (w : World) (h0 : -9223372036854775808 ≤ n) (h1 : n ≤ 9223372036854775807) :
    Calls Try.prog 30 #[.int .i64 n] w fun e w' => e = .returned (.tuple #[.int .u64 (if isSmall n then smallC n else 0), .bool (decide (isSmall n))]) ∧ w' = w := by
  by_cases h : isSmall n
  · rw [if_pos h, decide_eq_true h]
    obtain ⟨h2, h3⟩ := h
    have h3' : n ≤ 1152921504606846975 := by omega
    have hz := and61 (IntKind.u64.wrap n) (by rw [wrap_u64]; omega) (by rw [wrap_u64]; omega)
    go_enter Try.func30, Try.ntmps30
    go_wp2_with fail
    refine (rmake_any _ _ _ (by omega) (by omega) (by omega) (by omega)).mono ?_
    rintro e w' ⟨rfl, rfl⟩
    go_wp2_with fail
    go_ret2
    refine ⟨ret_pair ?_, rfl⟩
    rw [wrap_u64]
    unfold smallC
    omega
  · rw [if_neg h, decide_eq_false h]
    unfold isSmall at h
    by_cases h2 : n < -1152921504606846976
    · go_enter Try.func30, Try.ntmps30
      go_wp2_with fail
      go_ret2
      exact ⟨rfl, rfl⟩
    · have h2' : -1152921504606846976 ≤ n := by omega
      have h3 : 1152921504606846976 ≤ n := by omega
      go_enter Try.func30, Try.ntmps30
      go_wp2_with fail
      go_ret2
      exact ⟨rfl, rfl⟩
def partsA (c : Int) : Int := if c % 8 = 6 then c / 8 / 256 else 0
def partsN (c : Int) : Int := if c % 8 = 6 then c / 8 % 256 else 0
theorem parts_any (c : Int) (w : World) (h0 : 0 ≤ c) (h1 : c < 18446744073709551616) :
    Calls Try.prog 146 #[.int .u64 c] w fun e w' => e = .returned (.tuple #[.int .i64 (partsA c), .int .i64 (partsN c)]) ∧ w' = w := by
  unfold partsA partsN
  have htd := tdiv_pos (c / 8) 256 (by omega)
  have htm := tmod_pos (c / 8) 256 (by omega)
  by_cases h : c % 8 = 6
  · rw [if_pos h, if_pos h]
    have h' : ((c % 8 : Int) != 6) = false := by simp [h]
    have HH := Lib.hid h
    clear h
    go_enter Try.func146, Try.ntmps146
    go_wp2_with (first | (go_at_call 126; refine (tag_any _ _).mono ?_; rintro e w' ⟨rfl, rfl⟩) | (go_at_call 111; refine (value_any _ _).mono ?_; rintro e w' ⟨rfl, rfl⟩))
    go_ret2
    exact ⟨rfl, rfl⟩
  · rw [if_neg h, if_neg h]
    have h' : ((c % 8 : Int) != 6) = true := by simp [h]
    go_enter Try.func146, Try.ntmps146
    go_wp2_with (first | (go_at_call 126; refine (tag_any _ _).mono ?_; rintro e w' ⟨rfl, rfl⟩) | (go_at_call 111; refine (value_any _ _).mono ?_; rintro e w' ⟨rfl, rfl⟩))
    go_ret2
    exact ⟨rfl, rfl⟩
theorem ref_any (p : Int) (w : World) (h0 : 0 ≤ p) (h1 : p < 2305843009213693952) : Calls Try.prog 158 #[.int .i64 p] w fun e w' => e = .returned (.int .u64 (p * 8)) ∧ w' = w := by
  go_enter Try.func158, Try.ntmps158
  go_wp2_with (go_at_call 118; refine (make_ok _ _ _ (by omega) (by omega) (by omega) (by omega)).mono ?_; rintro e w' ⟨rfl, rfl⟩)
  go_ret
  exact ⟨ret_int (by omega), rfl⟩
theorem cref_any (p : Int) (w : World) (h0 : 0 ≤ p) (h1 : p < 2305843009213693952) : Calls Try.prog 171 #[.int .i64 p] w fun e w' => e = .returned (.int .u64 (p * 8)) ∧ w' = w := by
  go_enter Try.func171, Try.ntmps171
  go_wp2_with (go_at_call 118; refine (make_ok _ _ _ (by omega) (by omega) (by omega) (by omega)).mono ?_; rintro e w' ⟨rfl, rfl⟩)
  go_ret
  exact ⟨ret_int (by omega), rfl⟩

end Go.Proofs.Ytlmcfclonncgbaa
/- A map block and whose it is: what a store leaves of all else, what look-ups answer, as laws at the operation. -/
namespace Go.Proofs.Ytlmcfclonncgbaa
open Go.RowKit
open Go.Maps (Keyed)
set_option linter.unusedVariables false

/-- A map's block, whose it is: at most n entries, that read as D. -/
def MapOwn (own : Nat → Nat) (id : Nat) (w : World) (P : Program) (k e : TypeId) (b n : Nat) (D : DataW Unit) : Prop :=
  w.ownsMap P k (plainElem P e) b n D ∧ own b = id

section
variable {own own' : Nat → Nat} {id b n : Nat} {ids : List Nat} {w w' : World} {P : Program} {k e : TypeId} {D : DataW Unit}
theorem MapOwn.lt (h : MapOwn own id w P k e b n D) : b < w.heap.size := h.1.lt
theorem MapOwn.keep (h : MapOwn own id w P k e b n D) (x : Ext own own' ids w w') (hi : id ∉ ids) : MapOwn own' id w' P k e b n D := by
  have hlt := h.1.lt
  obtain ⟨⟨es, clock, hb, r⟩, ho⟩ := h
  exact ⟨⟨es, clock, (x.block b hlt (by rw [ho]; exact hi)).trans hb, r⟩, (x.own b hlt).trans ho⟩
theorem MapOwn.alloc (h : MapOwn own id w P k e b n D) (o : Obj) : MapOwn own id (w.alloc o) P k e b n D := ⟨h.1.alloc o, h.2⟩
theorem MapOwn.dr (h : MapOwn own id w P k e b n D) (m : Nat) : MapOwn own id (w.drewN m) P k e b n D := h
theorem MapOwn.mono (h : MapOwn own id w P k e b n D) {n' : Nat} (hn : n ≤ n') : MapOwn own id w P k e b n' D := ⟨h.1.mono hn, h.2⟩
theorem MapOwn.new (own : Nat → Nat) (id : Nat) (w : World) (P : Program) (k e : TypeId) :
    Ext own (give own w.heap.size id) [] w (w.alloc (.map #[] 0)) ∧ MapOwn (give own w.heap.size id) id (w.alloc (.map #[] 0)) P k e w.heap.size 0 (.map []) :=
  ⟨((Ext.refl own [] w).alloc _).give _ _ (Nat.le_refl _), World.ownsMap_made _ _ _ _, give_same _ _ _⟩
theorem MapOwn.cells_ne (h : MapOwn own id w P k e b n D) {b' : Nat} {cs : Array Value} {t : TypeId} {fr : Nat × Nat} (h' : w.heap[b']? = some (.cells cs t fr)) : b' ≠ b := by
  intro e; subst e
  obtain ⟨⟨es, clock, hb, r⟩, ho⟩ := h
  rw [hb] at h'; cases h'
end

section
variable {P : Program} (w : World) {ops : Array Oper} {rest : List Oper} {o : Oper} {a : Act} {Q : Exit → Act → World → Prop}
/-- 'm[k] = v' at the operation. -/
theorem wpList_map_put (hg : o.guard = none) (m x v : Operand) (t : TypeId) (hop : o.op = Op.mapUpdate t m x v)
    (k e : TypeId) (K : Keyed P k) (ht : P.underlying t = some (.map k e)) {own : Nat → Nat} {id b n : Nat} {D : DataW Unit}
    (hown : MapOwn own id w P k e b n D) (hn : n < maxLen) (hm : a.eval m = .map (some b)) (key val : Value) (kl : Lit) (hx : a.eval x = key) (hv : a.eval v = val) (hkey : keyOf P k key = some kl)
    (d : DataW Unit) (hval : plainElem P e val = some (d, []))
    (hK : ∀ w', MapOwn own id w' P k e b (n + 1) (D.put kl d) → Ext own own [id] w w' → wpList P ops Q rest (a.put o.dst undef) w') :
    wpList P ops Q (o :: rest) a w :=
  wpList_mapUpdate_own w hg m x v t hop k e K ht (plainElem P e) b n D hm hown.1 hn key val kl hx hv hkey d [] hval
    (fun w' h1 h2 => hK w' ⟨h1, hown.2⟩ ((Ext.refl own [id] w).grown h2 (fun j hj hlt => by cases hj; rw [hown.2]; simp)))
/-- An entry of a map's literal, at the operation. -/
theorem wpList_map_insert (hg : o.guard = none) (m x v : Operand) (t : TypeId) (hop : o.op = Op.insert t m x v)
    (k e : TypeId) (K : Keyed P k) (ht : P.underlying t = some (.map k e)) {own : Nat → Nat} {id b n : Nat} {D : DataW Unit}
    (hown : MapOwn own id w P k e b n D) (hn : n < maxLen) (hm : a.eval m = .map (some b)) (key val : Value) (kl : Lit) (hx : a.eval x = key) (hv : a.eval v = val) (hkey : keyOf P k key = some kl)
    (d : DataW Unit) (hval : plainElem P e val = some (d, []))
    (hK : ∀ w', MapOwn own id w' P k e b (n + 1) (D.put kl d) → Ext own own [id] w w' → w.grownBy w' (some b) → wpList P ops Q rest (a.put o.dst undef) w') :
    wpList P ops Q (o :: rest) a w := by
  refine wpList_plain hg fun K' hK' => ?_
  obtain ⟨w', hrun, r1, r2⟩ := hown.1.update K ht hn hkey hval
  unfold Oper.wp
  simp [execOp, hop, hm, hx, hv, hrun, Result.andThen]
  exact hK' _ _ (hK w' ⟨r1, hown.2⟩ ((Ext.refl own [id] w).grown r2 (fun j hj hlt => by cases hj; rw [hown.2]; simp)) r2)
/-- 'v, ok := m[k]' at elements of an integer kind. -/
theorem wpList_map_look_ok (hg : o.guard = none) (m x : Operand) (t : TypeId) (hop : o.op = Op.lookup t m x true)
    (k e : TypeId) (q : IntKind) (K : Keyed P k) (ht : P.underlying t = some (.map k e)) (he : P.underlying e = some (.int q)) (hz : (zeroValue e).run P w = .ok (.int q 0) w)
    {own : Nat → Nat} {id b n : Nat} {D : DataW Unit} (hown : MapOwn own id w P k e b n D)
    (hm : a.eval m = .map (some b)) (key : Value) (kl : Lit) (hx : a.eval x = key) (hkey : keyOf P k key = some kl)
    (c : Int) (hc : D.atKey kl (.lit (.int q 0)) = .lit (.int q c)) (f : Bool) (hf : Maps.has D kl = f)
    (hK : wpList P ops Q rest (a.put o.dst (.tuple #[.int q c, .bool f])) w) :
    wpList P ops Q (o :: rest) a w := by
  refine wpList_lookup_own_ok_int w hg m x t hop k e q K ht he hz b n D hm hown.1 key kl hx hkey (fun c' h1 _ => ?_)
  rw [hc] at h1
  cases h1
  rw [hf]
  exact hK
/-- 'm[k]' at elements of an integer kind. -/
theorem wpList_map_look (hg : o.guard = none) (m x : Operand) (t : TypeId) (hop : o.op = Op.lookup t m x false)
    (k e : TypeId) (q : IntKind) (K : Keyed P k) (ht : P.underlying t = some (.map k e)) (he : P.underlying e = some (.int q)) (hz : (zeroValue e).run P w = .ok (.int q 0) w)
    {own : Nat → Nat} {id b n : Nat} {D : DataW Unit} (hown : MapOwn own id w P k e b n D)
    (hm : a.eval m = .map (some b)) (key : Value) (kl : Lit) (hx : a.eval x = key) (hkey : keyOf P k key = some kl)
    (c : Int) (hc : D.atKey kl (.lit (.int q 0)) = .lit (.int q c))
    (hK : wpList P ops Q rest (a.put o.dst (.int q c)) w) :
    wpList P ops Q (o :: rest) a w := by
  refine wpList_lookup_own_int w hg m x t hop k e q K ht he hz b n D hm hown.1 key kl hx hkey (fun c' h1 _ => ?_)
  rw [hc] at h1
  cases h1
  exact hK
/-- An operation whose guard holds. -/
theorem wpList_wanted (hw : Region.wanted o (yielded ops a.tmps) = true) (h : ∀ K : Act → World → Prop, (∀ a w, wpList P ops Q rest a w → K a w) → o.wp P a w K Q) : wpList P ops Q (o :: rest) a w :=
  wpList_step fun K hK => by rw [if_pos hw]; exact h K hK
/-- 'm[k]' behind a guard that holds. -/
theorem wpList_map_look_g (hw : Region.wanted o (yielded ops a.tmps) = true) (m x : Operand) (t : TypeId) (hop : o.op = Op.lookup t m x false)
    (k e : TypeId) (q : IntKind) (K : Keyed P k) (ht : P.underlying t = some (.map k e)) (he : P.underlying e = some (.int q)) (hz : (zeroValue e).run P w = .ok (.int q 0) w)
    {own : Nat → Nat} {id b n : Nat} {D : DataW Unit} (hown : MapOwn own id w P k e b n D)
    (hm : a.eval m = .map (some b)) (key : Value) (kl : Lit) (hx : a.eval x = key) (hkey : keyOf P k key = some kl)
    (c : Int) (hc : D.atKey kl (.lit (.int q 0)) = .lit (.int q c))
    (hK : wpList P ops Q rest (a.put o.dst (.int q c)) w) :
    wpList P ops Q (o :: rest) a w := by
  refine wpList_wanted w hw fun K' hK' => ?_
  obtain ⟨c', hrun, h1, _⟩ := hown.1.lookup_int K ht he hz hkey
  rw [hc] at h1
  cases h1
  unfold Oper.wp
  simp [execOp, hop, hm, hx, hrun, Result.andThen]
  exact hK' _ _ hK
/-- 'len(m)', behind a guard that holds or none. -/
theorem wpList_map_len_g (hw : Region.wanted o (yielded ops a.tmps) = true) (m : Operand) (t : TypeId) (hop : o.op = Op.call { callee := Callee.builtin Builtin.len, args := #[m], argTypes := #[t] })
    (k e : TypeId) (ht : P.underlying t = some (.map k e)) {own : Nat → Nat} {id b n : Nat} {D : DataW Unit} (hown : MapOwn own id w P k e b n D) (hm : a.eval m = .map (some b)) (z : Nat) (hz : Maps.size D = z)
    (hK : wpList P ops Q rest (a.put o.dst (.int .i64 z)) w) :
    wpList P ops Q (o :: rest) a w := by
  refine wpList_wanted w hw fun K' hK' => ?_
  unfold Oper.wp
  simp [execOp, hop, resolve, invoke, builtin, hm, hown.1.len ht o.type, Result.andThen]
  rw [hz]
  exact hK' _ _ hK
end

end Go.Proofs.Ytlmcfclonncgbaa
/- Names in a list, in plain terms: where a name stands; what asking for a number leaves. -/
namespace Go.Proofs.Ytlmcfclonncgbaa
open Go.RowKit
/-- Where a name stands (its length, if nowhere). -/
def idxL : List ByteArray → ByteArray → Nat
  | [], _ => 0
  | x :: xs, s => if x = s then 0 else idxL xs s + 1
def memB (L : List ByteArray) (s : ByteArray) : Bool := decide (idxL L s < L.length)
theorem idxL_le : ∀ (L : List ByteArray) (s : ByteArray), idxL L s ≤ L.length
  | [], _ => Nat.le_refl _
  | x :: xs, s => by
    have := idxL_le xs s
    unfold idxL
    split <;> simp <;> omega
theorem idxL_get : ∀ (L : List ByteArray) (s : ByteArray), idxL L s < L.length → L[idxL L s]? = some s
  | [], _, h => by simp [idxL] at h
  | x :: xs, s, h => by
    unfold idxL at h ⊢
    split
    · rename_i e; simp [e]
    · rename_i e
      rw [if_neg e] at h
      have := idxL_get xs s (by simp at h; omega)
      simpa using this
theorem idxL_before : ∀ (L : List ByteArray) (s x : ByteArray) (j : Nat), j < idxL L s → L[j]? = some x → x ≠ s
  | [], _, _, _, h, _ => by simp [idxL] at h
  | y :: ys, s, x, j, h, hx => by
    unfold idxL at h
    split at h
    · omega
    · rename_i e
      cases j with
      | zero => simp at hx; subst hx; exact e
      | succ j => exact idxL_before ys s x j (by omega) (by simpa using hx)
theorem memB_iff {L : List ByteArray} {s : ByteArray} : memB L s = true ↔ s ∈ L := by
  unfold memB
  rw [decide_eq_true_iff]
  constructor
  · intro h
    exact List.mem_of_getElem? (idxL_get L s h)
  · intro h
    obtain ⟨j, hj⟩ := List.getElem?_of_mem h
    have hl := (List.getElem?_eq_some_iff.1 hj).1
    rcases Nat.lt_or_ge j (idxL L s) with g | g
    · exact absurd rfl (idxL_before L s s j g hj)
    · omega
theorem idxL_append : ∀ (L M : List ByteArray) (s : ByteArray), idxL L s < L.length → idxL (L ++ M) s = idxL L s
  | [], _, s, h => by simp [idxL] at h
  | x :: xs, M, s, h => by
    simp only [List.cons_append, idxL] at h ⊢
    split
    · rfl
    · rename_i e
      rw [if_neg e] at h
      rw [idxL_append xs M s (by simp at h; omega)]
theorem idxL_append_not : ∀ (L M : List ByteArray) (s : ByteArray), memB L s = false → idxL (L ++ M) s = L.length + idxL M s
  | [], M, s, _ => by simp
  | x :: xs, M, s, h => by
    have hn : ¬ x = s := by
      intro e; subst e
      simp [memB, idxL] at h
    have h2 : memB xs s = false := by
      simp only [memB, idxL, if_neg hn, decide_eq_false_iff_not] at h ⊢
      simp at h; omega
    simp only [List.cons_append, idxL, if_neg hn]
    rw [idxL_append_not xs M s h2]
    simp; omega
theorem idxL_new (L : List ByteArray) (s : ByteArray) (h : memB L s = false) : idxL (L ++ [s]) s = L.length := by
  rw [idxL_append_not L [s] s h]; simp [idxL]
theorem memB_append (L M : List ByteArray) (s : ByteArray) : memB (L ++ M) s = (memB L s || memB M s) := by
  rw [Bool.eq_iff_iff, Bool.or_eq_true, memB_iff, memB_iff, memB_iff, List.mem_append]
theorem memB_one (x s : ByteArray) : memB [x] s = decide (s = x) := by
  rw [Bool.eq_iff_iff, memB_iff]; simp
theorem idxL_inj (L : List ByteArray) (s x : ByteArray) (h : memB L s = true) (h2 : idxL L s = idxL L x) : s = x := by
  have h1 := idxL_get L s (by simpa [memB] using h)
  have h3 := idxL_get L x (by rw [← h2]; simpa [memB] using h)
  rw [← h2, h1] at h3
  simpa using h3
/-- No name twice. -/
theorem idxL_at {L : List ByteArray} (hn : L.Nodup) {j : Nat} {s : ByteArray} (h : L[j]? = some s) : idxL L s = j := by
  have hm : memB L s = true := memB_iff.2 (List.mem_of_getElem? h)
  have h2 := idxL_get L s (by simpa [memB] using hm)
  have hl := (List.getElem?_eq_some_iff.1 h).1
  have hl2 := (List.getElem?_eq_some_iff.1 h2).1
  have := (List.getElem?_inj hl hn).1 (h.trans h2.symm)
  omega


/-- What asking for a name's number leaves of the names, and what it answers. -/
def numL (L : List ByteArray) (s : ByteArray) : List ByteArray := if 200 < s.size then L else if memB L s then L else if L.length = 4096 then L else L ++ [s]
def numE (L : List ByteArray) (s : ByteArray) : Int := if 200 < s.size then 3 else if memB L s then 0 else if L.length = 4096 then 8 else 0
def numN (L : List ByteArray) (s : ByteArray) : Int := if 200 < s.size then 0 else if memB L s then idxL L s else if L.length = 4096 then 0 else L.length
/-- Names as a table has them. -/
structure Names (L : List ByteArray) : Prop where
  nodup : L.Nodup
  short : ∀ s ∈ L, s.size ≤ 200
  few : L.length ≤ 4096
  two : 2 ≤ L.length
theorem Names.num {L : List ByteArray} (h : Names L) (s : ByteArray) : Names (numL L s) := by
  unfold numL
  split
  · exact h
  · rename_i h1
    split
    · exact h
    · rename_i h2
      split
      · exact h
      · rename_i h3
        have hf := h.few
        refine ⟨?_, ?_, by simp; omega, by have := h.two; simp; omega⟩
        · rw [List.nodup_append]
          refine ⟨h.nodup, by simp, ?_⟩
          intro a ha b hb e
          simp at hb
          subst hb; subst e
          exact h2 (memB_iff.2 ha)
        · intro x hx
          rcases List.mem_append.1 hx with hx | hx
          · exact h.short x hx
          · simp at hx; subst hx; omega
theorem numL_pre (L : List ByteArray) (s : ByteArray) : ∃ M, numL L s = L ++ M ∧ M.length ≤ 1 := by
  unfold numL
  split
  · exact ⟨[], by simp, by simp⟩
  · split
    · exact ⟨[], by simp, by simp⟩
    · split
      · exact ⟨[], by simp, by simp⟩
      · exact ⟨[s], rfl, by simp⟩
/-- Asked for, a name is there. -/
theorem numL_mem (L : List ByteArray) (s : ByteArray) (h : s.size ≤ 200) (hl : L.length < 4096) : memB (numL L s) s = true ∧ numE L s = 0 ∧ numN L s = idxL (numL L s) s := by
  have hs : ¬ 200 < s.size := by omega
  have h4 : ¬ L.length = 4096 := by omega
  unfold numL numE numN
  simp only [if_neg hs, if_neg h4]
  by_cases hm : memB L s = true
  · simp only [if_pos hm]; exact ⟨hm, trivial, trivial⟩
  · have hm' : memB L s = false := by simpa using hm
    simp only [if_neg hm]
    refine ⟨?_, trivial, by rw [idxL_new L s hm']⟩
    rw [memB_append, memB_one]; simp
/-- The names that are there at first. -/
def names0 : List ByteArray := [⟨#[91, 93]⟩, ⟨#[46]⟩]

end Go.Proofs.Ytlmcfclonncgbaa
/- Put in plain terms, by recursion and by a stack. No program in sight. -/
namespace Go.Proofs.Ytlmcfclonncgbaa
set_option linter.unusedVariables false

/-- What a Put goes on: cells, names, the variables' cells. -/
structure SS where
  l : List Int
  L : List ByteArray
  V : List (Int × Int)
def look : List (Int × Int) → Int → Option Int
  | [], _ => none
  | (k, x) :: V, n => if k = n then some x else look V n
theorem look_append (V U : List (Int × Int)) (n : Int) : look (V ++ U) n = (look V n).orElse fun _ => look U n := by
  induction V with
  | nil => rfl
  | cons a V ih =>
    obtain ⟨k, x⟩ := a
    simp only [List.cons_append, look]
    split
    · rfl
    · exact ih
theorem look_new {V : List (Int × Int)} {n x : Int} (h : look V n = none) : look (V ++ [(n, x)]) n = some x := by
  rw [look_append, h]; simp [look]
theorem look_old {V : List (Int × Int)} {n k x : Int} (h : n ≠ k) : look (V ++ [(k, x)]) n = look V n := by
  rw [look_append]
  cases h' : look V n with
  | none => simp [look, Ne.symm h]
  | some y => rfl

def pushWs (most : Int) : List Int → List Int → List Int × Bool
  | l, [] => (l, true)
  | l, w :: ws => if (l.length : Int) < most then pushWs most (l ++ [w]) ws else (l, false)
def pushRs (most : Int) : List Int → Nat → List Int × Bool
  | l, 0 => (l, true)
  | l, n + 1 => if (l.length : Int) < most then pushRs most (l ++ [(l.length : Int) * 8]) n else (l, false)
def wordsT (most : Int) (tag : Int) (ws : List Int) (st : SS) : SS × Int × Int :=
  if (pushWs most st.l ws).2 then ({ st with l := (pushWs most st.l ws).1 }, (st.l.length : Int) * 8 + tag, 0) else ({ st with l := (pushWs most st.l ws).1 }, 0, 4)
def u64 (n : Int) : Int := n % 18446744073709551616
def varT (most : Int) (n own : Int) (st : SS) : SS × Int × Int :=
  match look st.V n with
  | some c => (st, c, 0)
  | none =>
    if own < 0 then
      if (st.l.length : Int) < most then ({ st with l := st.l ++ [(st.l.length : Int) * 8], V := st.V ++ [(n, (st.l.length : Int) * 8)] }, (st.l.length : Int) * 8, 0) else (st, 0, 4)
    else ({ st with V := st.V ++ [(n, own * 8)] }, own * 8, 0)
/-- A compound's functor, its arguments' places. -/
def compT (most : Int) (s : ByteArray) (k : Nat) (st : SS) : SS × Nat × Int :=
  if numE st.L s ≠ 0 then (st, 0, numE st.L s)
  else if (st.l.length : Int) < most then
    ({ st with l := (pushRs most (st.l ++ [funC (numN st.L s).toNat k]) k).1, L := numL st.L s }, st.l.length, if (pushRs most (st.l ++ [funC (numN st.L s).toNat k]) k).2 then 0 else 4)
  else ({ st with L := numL st.L s }, 0, 4)
mutual
/-- Put: what becomes of all, the cell, what was wrong. -/
def putT (most : Int) : CT → Int → SS → SS × Int × Int
  | .var n, own, st => varT most n own st
  | .atom s, _, st => ({ st with L := numL st.L s }, numN st.L s * 8 + 2, numE st.L s)
  | .int n, _, st => if isSmall n then (st, smallC n, 0) else wordsT most 4 [u64 n] st
  | .cpx re im, _, st => wordsT most 5 [re, im] st
  | .comp s args, _, st =>
    if (compT most s args.length st).2.2 ≠ 0 then ((compT most s args.length st).1, 0, (compT most s args.length st).2.2)
    else ((putArgs most args ((compT most s args.length st).2.1 + 1) (compT most s args.length st).1).1, ((compT most s args.length st).2.1 : Int) * 8 + 1, (putArgs most args ((compT most s args.length st).2.1 + 1) (compT most s args.length st).1).2)
def putArgs (most : Int) : List CT → Nat → SS → SS × Int
  | [], _, st => (st, 0)
  | a :: rs, p, st =>
    if (putT most a p st).2.2 ≠ 0 then ((putT most a p st).1, (putT most a p st).2.2)
    else putArgs most rs (p + 1) { (putT most a p st).1 with l := (putT most a p st).1.l.set p (putT most a p st).2.1 }
end

/-! By a stack -/
inductive Todo where
  | todo (t : CT) (at_ : Int)
  | laid (at_ c : Int)
def Todo.w : Todo → Nat
  | .todo t _ => 2 * nodes t
  | .laid _ _ => 1
def wts : List Todo → Nat
  | [] => 0
  | x :: xs => x.w + wts xs
def todos : List CT → Nat → List Todo
  | [], _ => []
  | a :: rs, p => .todo a p :: todos rs (p + 1)
theorem wts_append (a b : List Todo) : wts (a ++ b) = wts a + wts b := by
  induction a with
  | nil => simp [wts]
  | cons x a ih => simp only [List.cons_append, wts, ih]; omega
theorem wts_todos : ∀ (l : List CT) (p : Nat), wts (todos l p) = 2 * nodesL l
  | [], _ => rfl
  | a :: rs, p => by simp only [todos, wts, Todo.w, nodesL, wts_todos rs (p + 1)]; omega
/-- A cell for a place: the cells, the first. -/
def setL' (l : List Int) (at_ c : Int) : List Int := if at_ < 0 then l else l.set at_.toNat c
def setF (first at_ c : Int) : Int := if at_ < 0 then c else first
def runS (most : Int) (stk : List Todo) (st : SS) (first : Int) : SS × Int × Int :=
  match stk with
  | [] => (st, first, 0)
  | .laid at_ c :: rest => runS most rest { st with l := setL' st.l at_ c } (setF first at_ c)
  | .todo (.comp s args) at_ :: rest =>
    if (compT most s args.length st).2.2 ≠ 0 then ((compT most s args.length st).1, 0, (compT most s args.length st).2.2)
    else runS most (todos args ((compT most s args.length st).2.1 + 1) ++ .laid at_ (((compT most s args.length st).2.1 : Int) * 8 + 1) :: rest) (compT most s args.length st).1 first
  | .todo t at_ :: rest =>
    if (putT most t at_ st).2.2 ≠ 0 then ((putT most t at_ st).1, 0, (putT most t at_ st).2.2)
    else runS most rest { (putT most t at_ st).1 with l := setL' (putT most t at_ st).1.l at_ (putT most t at_ st).2.1 } (setF first at_ (putT most t at_ st).2.1)
  termination_by wts stk
  decreasing_by
    all_goals simp only [wts, wts_append, wts_todos, Todo.w, nodes]
    all_goals (try have := nodes_pos (by assumption))
    all_goals omega
mutual
theorem run_put (most : Int) : ∀ (t : CT) (at_ : Int) (rest : List Todo) (st : SS) (first : Int),
    runS most (.todo t at_ :: rest) st first = if (putT most t at_ st).2.2 ≠ 0 then ((putT most t at_ st).1, 0, (putT most t at_ st).2.2) else runS most (.laid at_ (putT most t at_ st).2.1 :: rest) (putT most t at_ st).1 first
  | .var n, at_, rest, st, first => by
    rw [runS.eq_def]; dsimp only
    split
    · rfl
    · conv => rhs; rw [runS.eq_def]
  | .atom n, at_, rest, st, first => by
    rw [runS.eq_def]; dsimp only
    split
    · rfl
    · conv => rhs; rw [runS.eq_def]
  | .int n, at_, rest, st, first => by
    rw [runS.eq_def]; dsimp only
    split
    · rfl
    · conv => rhs; rw [runS.eq_def]
  | .cpx re im, at_, rest, st, first => by
    rw [runS.eq_def]; dsimp only
    split
    · rfl
    · conv => rhs; rw [runS.eq_def]
  | .comp s args, at_, rest, st, first => by
    rw [runS.eq_def]; dsimp only
    by_cases h : (compT most s args.length st).2.2 ≠ 0
    · have e : putT most (.comp s args) at_ st = ((compT most s args.length st).1, 0, (compT most s args.length st).2.2) := by simp only [putT]; rw [if_pos h]
      rw [if_pos h, e]
      dsimp only
      rw [if_pos h]
    · have e : putT most (.comp s args) at_ st = ((putArgs most args ((compT most s args.length st).2.1 + 1) (compT most s args.length st).1).1, ((compT most s args.length st).2.1 : Int) * 8 + 1, (putArgs most args ((compT most s args.length st).2.1 + 1) (compT most s args.length st).1).2) := by simp only [putT]; rw [if_neg h]
      rw [if_neg h, run_args most args, e]
theorem run_args (most : Int) : ∀ (l : List CT) (p : Nat) (rest : List Todo) (st : SS) (first : Int),
    runS most (todos l p ++ rest) st first = if (putArgs most l p st).2 ≠ 0 then ((putArgs most l p st).1, 0, (putArgs most l p st).2) else runS most rest (putArgs most l p st).1 first
  | [], p, rest, st, first => by simp [todos, putArgs]
  | a :: rs, p, rest, st, first => by
    simp only [todos, List.cons_append, putArgs]
    rw [run_put most a]
    by_cases h : (putT most a p st).2.2 ≠ 0
    · rw [if_pos h, if_pos h, if_pos h]
    · rw [if_neg h, if_neg h, runS.eq_def]
      dsimp only
      have e1 : setF first (p : Int) (putT most a p st).2.1 = first := by unfold setF; rw [if_neg (by omega)]
      have e2 : setL' (putT most a p st).1.l (p : Int) (putT most a p st).2.1 = (putT most a p st).1.l.set p (putT most a p st).2.1 := by unfold setL'; rw [if_neg (by omega)]; simp
      rw [e1, e2, run_args most rs]
end
/-- By a stack it is as by recursion. -/
theorem run_one (most : Int) (t : CT) (st : SS) : runS most [.todo t (-1)] st 0 = if (putT most t (-1) st).2.2 ≠ 0 then ((putT most t (-1) st).1, 0, (putT most t (-1) st).2.2) else ((putT most t (-1) st).1, (putT most t (-1) st).2.1, 0) := by
  rw [run_put]
  split
  · rfl
  · rw [runS.eq_def]; dsimp only
    rw [runS.eq_def]
    simp [setL', setF]
end Go.Proofs.Ytlmcfclonncgbaa
/- Maps from numbers to numbers: what they tell; their laws as equations of runs. -/
namespace Go.Proofs.Ytlmcfclonncgbaa
open Go.RowKit
set_option linter.unusedVariables false

open Go.Maps (Keyed int_keyed keyOf_int_mk)
/-- What a map tells: the pairs that were put, each key once. -/
structure VM (q1 q2 : IntKind) (V : List (Int × Int)) (D : DataW Unit) : Prop where
  tidy : Maps.Tidy D
  has : ∀ n, Maps.has D (.int q1 n) = (look V n).isSome
  val : ∀ n, D.atKey (.int q1 n) (.lit (.int q2 0)) = .lit (.int q2 ((look V n).getD 0))
  size : Maps.size D = V.length
theorem VM.nil (q1 q2 : IntKind) : VM q1 q2 [] (.map []) := ⟨Maps.tidy_empty, fun n => rfl, fun n => rfl, rfl⟩
theorem intQ_key (q : IntKind) (n : Int) : WideAt.IsKeyLit (.int q n) := trivial
theorem VM.put {q1 q2 : IntKind} {V : List (Int × Int)} {D : DataW Unit} (h : VM q1 q2 V D) (n x : Int) (hn : look V n = none) : VM q1 q2 (V ++ [(n, x)]) (D.put (.int q1 n) (.lit (.int q2 x))) := by
  have hD := h.tidy.isMap
  refine ⟨h.tidy.put (intQ_key _ _) _, fun m => ?_, fun m => ?_, ?_⟩
  · by_cases e : m = n
    · subst e
      rw [Maps.has_put_same hD (intQ_key _ _), look_new hn]; rfl
    · rw [Maps.has_put_other (fun h => e (by cases h; rfl)), look_old e]
      exact h.has m
  · by_cases e : m = n
    · subst e
      rw [Maps.atKey_put_same hD (intQ_key _ _), look_new hn]; rfl
    · rw [Maps.atKey_put_other (fun h => e (by cases h; rfl)), look_old e]
      exact h.val m
  · rw [Maps.size_put h.tidy, h.has n, hn]
    simp [h.size]
/-- A map at block p. -/
def MV (own : Nat → Nat) (id : Nat) (w : World) (P : Program) (q1 q2 : IntKind) (kt et : TypeId) (p : Nat) (V : List (Int × Int)) : Prop := ∃ D, MapOwn own id w P kt et p V.length D ∧ VM q1 q2 V D
section
variable {own own' : Nat → Nat} {id p : Nat} {ids : List Nat} {w w' : World} {P : Program} {q1 q2 : IntKind} {kt et : TypeId} {V : List (Int × Int)}
theorem MV.keep (h : MV own id w P q1 q2 kt et p V) (x : Ext own own' ids w w') (hi : id ∉ ids) : MV own' id w' P q1 q2 kt et p V := by
  obtain ⟨D, h1, h2⟩ := h
  exact ⟨D, h1.keep x hi, h2⟩
theorem MV.dr (h : MV own id w P q1 q2 kt et p V) (n : Nat) : MV own id (w.drewN n) P q1 q2 kt et p V := h
theorem MV.lt (h : MV own id w P q1 q2 kt et p V) : p < w.heap.size := by
  obtain ⟨D, h1, _⟩ := h; exact h1.lt
theorem MV.new (own : Nat → Nat) (id : Nat) (w : World) (P : Program) (q1 q2 : IntKind) (kt et : TypeId) :
    Ext own (give own w.heap.size id) [] w (w.alloc (.map #[] 0)) ∧ MV (give own w.heap.size id) id (w.alloc (.map #[] 0)) P q1 q2 kt et w.heap.size [] := by
  obtain ⟨h1, h2⟩ := MapOwn.new own id w P kt et
  exact ⟨h1, _, h2, VM.nil _ _⟩
/-- 'v, ok := m[k]', as an equation of its run. -/
theorem MV.look_ok (h : MV own id w P q1 q2 kt et p V) {t : TypeId} (ht : P.underlying t = some (.map kt et)) (hk : P.underlying kt = some (.int q1)) (he : P.underlying et = some (.int q2)) (hz : (zeroValue et).run P w = .ok (.int q2 0) w) (n : Int) (hw : (Lit.int q1 n).wf = true) :
    (Instr.lookup t (.map (some p)) (.int q1 n) true).run P w = .ok (.tuple #[.int q2 ((look V n).getD 0), .bool (look V n).isSome]) w := by
  obtain ⟨D, h1, h2⟩ := h
  have hw0 : (Lit.int q2 0).wf = true := by cases q2 <;> decide
  obtain ⟨v, ps, hrun, hv⟩ := h1.1.look_ok (int_keyed hk) ht hz (plainElem_int he hw0) (keyOf_int_mk hk hw)
  obtain ⟨c, rfl, hc, hwc⟩ := plainElem_int_inv he hv
  rw [h2.val] at hc
  simp only [Prod.mk.injEq, DataW.lit.injEq, Lit.int.injEq, true_and] at hc
  rw [hrun, h2.has, ← hc.1]
/-- 'm[k]'. -/
theorem MV.at_ (h : MV own id w P q1 q2 kt et p V) {t : TypeId} (ht : P.underlying t = some (.map kt et)) (hk : P.underlying kt = some (.int q1)) (he : P.underlying et = some (.int q2)) (hz : (zeroValue et).run P w = .ok (.int q2 0) w) (n : Int) (hw : (Lit.int q1 n).wf = true) :
    (Instr.lookup t (.map (some p)) (.int q1 n) false).run P w = .ok (.int q2 ((look V n).getD 0)) w := by
  obtain ⟨D, h1, h2⟩ := h
  obtain ⟨c, hrun, hat, _⟩ := h1.1.lookup_int (int_keyed hk) ht he hz (keyOf_int_mk hk hw)
  rw [h2.val] at hat
  simp only [DataW.lit.injEq, Lit.int.injEq, true_and] at hat
  rw [hrun, hat]
/-- 'm[k] = v' of a new key. -/
theorem MV.put (h : MV own id w P q1 q2 kt et p V) {t : TypeId} (ht : P.underlying t = some (.map kt et)) (hk : P.underlying kt = some (.int q1)) (he : P.underlying et = some (.int q2)) (n x : Int) (hw : (Lit.int q1 n).wf = true) (hx : (Lit.int q2 x).wf = true) (hn : look V n = none) (hV : V.length < 1000000000) :
    ∃ w', (Instr.mapUpdate t (.map (some p)) (.int q1 n) (.int q2 x)).run P w = .ok () w' ∧ MV own id w' P q1 q2 kt et p (V ++ [(n, x)]) ∧ Ext own own [id] w w' ∧ w.grownBy w' (some p) := by
  obtain ⟨D, h1, h2⟩ := h
  obtain ⟨w', hrun, r1, r2⟩ := h1.1.update (int_keyed hk) ht (by unfold maxLen; omega) (keyOf_int_mk hk hw) (plainElem_int he hx)
  refine ⟨w', hrun, ⟨_, ⟨?_, h1.2⟩, h2.put n x hn⟩, (Ext.refl own [id] w).grown r2 (fun j hj hlt => by cases hj; rw [h1.2]; simp), r2⟩
  rw [List.length_append]
  exact r1
theorem MV.len (h : MV own id w P q1 q2 kt et p V) {t : TypeId} (ht : P.underlying t = some (.map kt et)) (ty : TypeId) : (Builtin.len_ #[t] ty #[.map (some p)]).run P w = .ok (.int .i64 (V.length : Nat)) w := by
  obtain ⟨D, h1, h2⟩ := h
  rw [h1.1.len ht ty, h2.size]
end

end Go.Proofs.Ytlmcfclonncgbaa
/- The table of names (package atoms), each call by a contract: what it answers, what becomes of the names. -/
namespace Go.Proofs.Ytlmcfclonncgbaa
open Go.RowKit
set_option linter.unusedVariables false

open Go.Maps (Keyed string_keyed int_keyed)
theorem info_str : (Try.prog.info? 9).map (fun i => (i.zero, i.size, i.bytes)) = some (some (.string ByteArray.empty), 1, 16) := by kernel_rfl
theorem law_str : Keyed Try.prog 9 := string_keyed Try.underlying9
theorem zero_int (w : World) : (zeroValue 3).run Try.prog w = .ok (.int .i64 0) w := by kernel_rfl
theorem int_elem (n : Int) (h0 : -9223372036854775808 ≤ n) (h1 : n ≤ 9223372036854775807) : plainElem (H := Unit) Try.prog 3 (.int .i64 n) = some (.lit (.int .i64 n), []) :=
  plainElem_int Try.underlying3 (WalkArith.wf_i64 (by omega))
/-- A name as a key. -/
def nameK (s : ByteArray) : Lit := .string s.data.toList
theorem nameK_inj {s t : ByteArray} (h : nameK s = nameK t) : s = t := by
  unfold nameK at h
  simp only [Lit.string.injEq] at h
  cases s; cases t
  simp at h
  subst h; rfl
theorem nameK_key (s : ByteArray) : WideAt.IsKeyLit (nameK s) := trivial
theorem key_str {s : ByteArray} (h : s.size ≤ maxLen) : keyOf Try.prog 9 (.string s) = some (nameK s) := _root_.Go.WideMaps.keyOf_string_mk Try.underlying9 h
/-- Two strings as the walk holds them against each other. -/
theorem str_eq (x s : ByteArray) : (x.toList == s.toList) = decide (x = s) := by
  rw [Bool.eq_iff_iff, beq_iff_eq, decide_eq_true_iff, ByteArray.toList_eq, ByteArray.toList_eq]
  exact ⟨fun h => WideShapes.bytes_inj h, fun h => by rw [h]⟩
theorem str_same (x : ByteArray) : (x.toList == x.toList) = true := by rw [str_eq]; simp
theorem str_ne {x s : ByteArray} (h : x ≠ s) : (x.toList == s.toList) = false := by rw [str_eq]; simpa using h
def strs (L : List ByteArray) : List Value := L.map Value.string
theorem strs_get {L : List ByteArray} {j : Nat} {s : ByteArray} (h : L[j]? = some s) : (strs L)[j]? = some (.string s) := by simp [strs, h]
theorem strs_append (L M : List ByteArray) : strs (L ++ M) = strs L ++ strs M := by simp [strs]
theorem strs_length (L : List ByteArray) : (strs L).length = L.length := by simp [strs]

/-- The number of a name, 0 if it has none. -/
def findN (L : List ByteArray) (s : ByteArray) : Int := if memB L s then idxL L s else 0
/-- What a map tells of names: each has its place as its number. -/
def Tells (L : List ByteArray) (D : DataW Unit) : Prop := ∀ s, Maps.has D (nameK s) = memB L s ∧ D.atKey (nameK s) (.lit (.int .i64 0)) = .lit (.int .i64 (findN L s))
theorem Tells.nil : Tells [] (.map []) := fun s => ⟨rfl, rfl⟩
theorem Tells.put {L : List ByteArray} {D : DataW Unit} (h : Tells L D) (hD : Maps.IsMap D) (s : ByteArray) (hn : memB L s = false) : Tells (L ++ [s]) (D.put (nameK s) (.lit (.int .i64 L.length))) := by
  intro x
  unfold findN
  rw [memB_append, memB_one]
  by_cases e : x = s
  · subst e
    rw [Maps.has_put_same hD (nameK_key x), Maps.atKey_put_same hD (nameK_key x), idxL_new L x hn]
    simp
  · have hne : nameK x ≠ nameK s := fun h => e (nameK_inj h)
    rw [Maps.has_put_other hne, Maps.atKey_put_other hne, (h x).1, (h x).2]
    unfold findN
    simp only [e, decide_false, Bool.or_false, true_and]
    by_cases hm : memB L x = true
    · rw [if_pos hm, if_pos hm, idxL_append]
      simpa [memB] using hm
    · rw [if_neg hm, if_neg hm]

/-- A table at block p: its names; the struct and the names are id's, the map idm's. -/
def TabP (own : Nat → Nat) (id idm : Nat) (w : World) (p : Nat) (L : List ByteArray) : Prop :=
  ∃ v bm D, Blk own id w p [v, .map (some bm)] 124 ∧ Row own id w 9 1 v L.length (strs L) ∧ MapOwn own idm w Try.prog 9 3 bm L.length D ∧ Tells L D ∧ Names L
theorem TabP.keep {own own' : Nat → Nat} {id idm p : Nat} {ids : List Nat} {w w' : World} {L : List ByteArray} (h : TabP own id idm w p L) (x : Ext own own' ids w w') (hi : id ∉ ids) (hj : idm ∉ ids) : TabP own' id idm w' p L := by
  obtain ⟨v, bm, D, hb, hr, hm, ht, hn⟩ := h
  exact ⟨v, bm, D, hb.keep x hi, hr.keep x hi, hm.keep x hj, ht, hn⟩
theorem TabP.dr {own : Nat → Nat} {id idm p : Nat} {w : World} {L : List ByteArray} (h : TabP own id idm w p L) (n : Nat) : TabP own id idm (w.drewN n) p L := h
theorem TabP.names {own : Nat → Nat} {id idm p : Nat} {w : World} {L : List ByteArray} (h : TabP own id idm w p L) : Names L := by
  obtain ⟨v, bm, D, hb, hr, hm, ht, hn⟩ := h; exact hn
theorem names0_ok : Names names0 := ⟨by decide, by decide, by decide, by decide⟩

def MadeTab (own : Nat → Nat) (w : World) (id idm : Nat) (e : Ending) (w' : World) : Prop :=
  ∃ own' p, Ext own own' [] w w' ∧ e = .returned (.pointer (some ⟨p, 0, none⟩)) ∧ w.heap.size ≤ p ∧ p < w'.heap.size ∧ TabP own' id idm w' p names0

theorem alen_any (own : Nat → Nat) (id idm p : Nat) (L : List ByteArray) (w : World) (h : TabP own id idm w p L) : Calls Try.prog 41 #[.pointer (some ⟨p, 0, none⟩)] w (Quiet w (.int .i64 L.length)) := by
  obtain ⟨v, bm, D, hb, hr, hm, ht, hn⟩ := h
  have c0 := hb.cell 0 rfl
  obtain ⟨A, cap, rfl, hc⟩ := hr.form
  clear hm ht hn
  go_enter Try.func41, Try.ntmps41
  go_wp2_with fail
  go_ret
  exact ⟨rfl, 0, rfl⟩
theorem alen_nil (w : World) : Calls Try.prog 41 #[.pointer none] w (Quiet w (.int .i64 0)) := by
  go_enter Try.func41, Try.ntmps41
  go_wp2_with fail
  go_ret
  exact ⟨rfl, 0, rfl⟩
theorem aname_nil (n : Int) (w : World) : Calls Try.prog 161 #[.pointer none, .int .i64 n] w (Quiet w (.tuple #[.string ByteArray.empty, .bool false])) := by
  by_cases h0 : n < 0
  · go_enter Try.func161, Try.ntmps161
    go_wp2_with fail
    go_ret2
    exact ⟨rfl, 0, rfl⟩
  · have h1 : 0 ≤ n := by omega
    go_enter Try.func161, Try.ntmps161
    go_wp2_with (go_at_call 41; refine (alen_nil _).mono ?_; rintro e w' ⟨rfl, n, rfl⟩)
    go_ret2
    exact ⟨rfl, _, rfl⟩
theorem anumber_nil (s : ByteArray) (w : World) : Calls Try.prog 46 #[.pointer none, .string s] w (Quiet w (.tuple #[.int .i64 0, .int .i64 1])) := by
  go_enter Try.func46, Try.ntmps46
  go_wp2_with fail
  go_ret2
  exact ⟨rfl, 0, rfl⟩
theorem aname_out (own : Nat → Nat) (id idm p : Nat) (n : Int) (L : List ByteArray) (w : World) (h : TabP own id idm w p L) (ho : n < 0 ∨ (L.length : Int) ≤ n) :
    Calls Try.prog 161 #[.pointer (some ⟨p, 0, none⟩), .int .i64 n] w (Quiet w (.tuple #[.string ByteArray.empty, .bool false])) := by
  rcases ho with h0 | h0
  · go_enter Try.func161, Try.ntmps161
    go_wp2_with fail
    go_ret2
    exact ⟨rfl, 0, rfl⟩
  · have h1 : 0 ≤ n := by omega
    go_enter Try.func161, Try.ntmps161
    go_wp2_with (go_at_call 41; refine (alen_any own id idm p L _ h).mono ?_; rintro e w' ⟨rfl, n, rfl⟩)
    go_ret2
    exact ⟨rfl, _, rfl⟩
theorem aname_in (own : Nat → Nat) (id idm p j : Nat) (s : ByteArray) (L : List ByteArray) (w : World) (h : TabP own id idm w p L) (hj : L[j]? = some s) :
    Calls Try.prog 161 #[.pointer (some ⟨p, 0, none⟩), .int .i64 j] w (Quiet w (.tuple #[.string s, .bool true])) := by
  have hln := alen_any own id idm p L w h
  have HL := Lib.hid hln
  obtain ⟨v, bm, D, hb, hr, hm, ht, hn⟩ := h
  have c0 := hb.cell 0 rfl
  have hlt := (List.getElem?_eq_some_iff.1 hj).1
  obtain ⟨g, cap, rfl, hc⟩ := hr.form_pos (by omega)
  have cj := hr.cell j (strs_get hj)
  have h0 : (0 : Int) ≤ j := by omega
  have h1 : (j : Int) < L.length := by omega
  have HJ := Lib.hid hj
  clear hm ht hn hln hj
  go_enter Try.func161, Try.ntmps161
  go_wp2_with (go_at_call 41; refine HL.out.mono ?_; rintro e w' ⟨rfl, n, rfl⟩)
  go_ret2
  exact ⟨rfl, _, rfl⟩

end Go.Proofs.Ytlmcfclonncgbaa
/- The table's Number and New (package atoms), each by a contract. -/
namespace Go.Proofs.Ytlmcfclonncgbaa
open Go.RowKit
set_option linter.unusedVariables false

open Go.Maps (Keyed string_keyed int_keyed)
theorem anumber_long (own : Nat → Nat) (id idm p : Nat) (s : ByteArray) (L : List ByteArray) (w : World) (h : TabP own id idm w p L) (hs : 200 < s.size) :
    Calls Try.prog 46 #[.pointer (some ⟨p, 0, none⟩), .string s] w (Quiet w (.tuple #[.int .i64 0, .int .i64 3])) := by
  have h1 : (200 : Int) < (s.size : Int) := by omega
  clear h
  go_enter Try.func46, Try.ntmps46
  go_wp2_with fail
  go_ret2
  exact ⟨rfl, 0, rfl⟩
set_option maxHeartbeats 800000 in
theorem anumber_met (own : Nat → Nat) (id idm p : Nat) (s : ByteArray) (L : List ByteArray) (w : World) (h : TabP own id idm w p L) (hs : s.size ≤ 200) (hk : memB L s = true) :
    Calls Try.prog 46 #[.pointer (some ⟨p, 0, none⟩), .string s] w (Quiet w (.tuple #[.int .i64 (findN L s), .int .i64 0])) := by
  obtain ⟨v, bm, D, hb, hr, hm, ht, hn⟩ := h
  have c1 := hb.cell 1 rfl
  have h1 := (ht s).1
  have h2 := (ht s).2
  rw [hk] at h1
  have H1 := Lib.hid h1
  have H2 := Lib.hid h2
  have hz : (s.size : Int) ≤ 200 := by omega
  clear h1 h2 hr hn hk
  go_enter Try.func46, Try.ntmps46
  go_wp2_with (at_lookup; refine wpList_map_look_ok _ rfl _ _ 122 rfl 9 3 .i64 law_str Try.underlying122 Try.underlying3 (zero_int _) hm rfl _ _ rfl (key_str (by unfold maxLen; omega)) _ H2.out _ H1.out ?_)
  go_ret2
  exact ⟨rfl, 0, rfl⟩
set_option maxHeartbeats 800000 in
theorem anumber_full (own : Nat → Nat) (id idm p : Nat) (s : ByteArray) (L : List ByteArray) (w : World) (h : TabP own id idm w p L) (hs : s.size ≤ 200) (hk : memB L s = false) (hf : L.length = 4096) :
    Calls Try.prog 46 #[.pointer (some ⟨p, 0, none⟩), .string s] w (Quiet w (.tuple #[.int .i64 0, .int .i64 8])) := by
  obtain ⟨v, bm, D, hb, hr, hm, ht, hn⟩ := h
  have c0 := hb.cell 0 rfl
  have c1 := hb.cell 1 rfl
  obtain ⟨A, cap, rfl, hc⟩ := hr.form
  have h1 := (ht s).1
  have h2 := (ht s).2
  rw [hk] at h1
  have H1 := Lib.hid h1
  have H2 := Lib.hid h2
  have hz : (s.size : Int) ≤ 200 := by omega
  have hq : ((L.length : Int) == 4096) = true := by simp; omega
  clear h1 h2 hr hn hk hf
  go_enter Try.func46, Try.ntmps46
  go_wp2_with (at_lookup; refine wpList_map_look_ok _ rfl _ _ 122 rfl 9 3 .i64 law_str Try.underlying122 Try.underlying3 (zero_int _) hm rfl _ _ rfl (key_str (by unfold maxLen; omega)) _ H2.out _ H1.out ?_)
  go_ret2
  exact ⟨rfl, 0, rfl⟩
set_option maxHeartbeats 1600000 in
set_option maxRecDepth 100000 in
theorem anumber_new (own : Nat → Nat) (id idm p : Nat) (s : ByteArray) (L : List ByteArray) (w : World) (h : TabP own id idm w p L) (hid : id ≠ idm) (hs : s.size ≤ 200) (hk : memB L s = false) (hf : L.length < 4096) :
    Calls Try.prog 46 #[.pointer (some ⟨p, 0, none⟩), .string s] w
      (Does own [id, idm] w fun own' e w' => e = .returned (.tuple #[.int .i64 L.length, .int .i64 0]) ∧ TabP own' id idm w' p (L ++ [s])) := by
  have hnn := (h.names).num s
  obtain ⟨v, bm, D, hb, hr, hm, ht, hn⟩ := h
  have c0 := hb.cell 0 rfl
  have c1 := hb.cell 1 rfl
  obtain ⟨A, cap, rfl, hc⟩ := hr.form
  have h1 := (ht s).1
  have h2 := (ht s).2
  have h3 := ht.put hm.1.isMap s hk
  rw [hk] at h1
  have H1 := Lib.hid h1
  have H2 := Lib.hid h2
  have hnum : numL L s = L ++ [s] := by unfold numL; rw [if_neg (by omega), if_neg (by simp [hk]), if_neg (by omega)]
  rw [hnum] at hnn
  have hz : (s.size : Int) ≤ 200 := by omega
  have hq : ((L.length : Int) == 4096) = false := by simp; omega
  have hq0 : 0 ≤ (L.length : Int) := by omega
  have HK := Lib.hid hk
  clear h1 h2 hn hk hnum
  go_enter Try.func46, Try.ntmps46
  go_wp2_with (at_lookup; refine wpList_map_look_ok _ rfl _ _ 122 rfl 9 3 .i64 law_str Try.underlying122 Try.underlying3 (zero_int _) hm rfl _ _ rfl (key_str (by unfold maxLen; omega)) _ H2.out _ H1.out ?_)
  go_still_tail 10, (by kernel_rfl)
  change wpList _ _ _ _ _ w.drew
  replace hb : Blk own id w.drew p _ _ := hb
  replace hr : Row own id w.drew _ _ _ _ _ := hr
  replace hm : MapOwn own idm w.drew _ _ _ _ _ _ := hm
  have x0 := (Ext.refl own [id, idm] w).drew
  generalize w.drew = W at *
  refine wpList_map_put _ rfl _ _ _ 122 rfl 9 3 law_str Try.underlying122 hm (by unfold maxLen; omega) rfl _ _ _ rfl rfl (key_str (by unfold maxLen; omega)) _ (int_elem _ (by omega) (by omega)) ?_
  intro w1 hm1 x1
  have hb1 := hb.keep x1 (by simpa using hid)
  have hr1 := hr.keep x1 (by simpa using hid)
  replace x1 := x0.trans (x1.mono (by simp))
  clear hb hr hm x0 c0 c1
  have c0 := hb1.cell 0 rfl
  go_wp2_with (at_builtin; refine wpList_append_row rfl _ _ 55 rfl 9 (.string ByteArray.empty) 1 16 Try.underlying55 info_str rfl (by decide) (by decide) rfl rfl rfl (one_cell' _ rfl) hr1 (by omega) ?_)
  intro g cap' w2 own2 hr2 x2 hk2 _
  have hb2 := hk2 p _ _ hb1 (by decide)
  have hm2 := hm1.keep x2 (by simpa using hid.symm)
  clear hk2 hb1 hr1 hm1
  have d0 := hb2.cell 0 rfl
  have f0 := hb2.free 0
  replace x2 := x1.trans (x2.mono (by simp))
  have hbo := hb2.2
  have HBO := Lib.hid hbo
  clear hbo c0 x1
  go_wp2
  go_ret2
  have hne : (Value.slice (some ⟨g, 0, none⟩) (L.length + 1) cap').ownBlock ≠ some p := hr2.ne_blk hb2 (by decide)
  refine ⟨own2, ?_, rfl, _, bm, _, hb2.set 0 _, ?_, ?_, h3, hnn⟩
  · exact x2.setCell _ _ (fun hlt => by show own p ∈ [id, idm]; rw [← x2.own p hlt, HBO.out]; simp)
  · have := hr2.far (p := ⟨p, 0, none⟩) hne (Value.slice (some ⟨g, 0, none⟩) (L.length + 1) cap')
    rw [strs_append, List.length_append]
    exact this
  · rw [List.length_append]
    exact hm2.keep ((Ext.refl own2 [id] w2).setCell ⟨p, 0, none⟩ _ (fun _ => by show own2 p ∈ [id]; rw [HBO.out]; simp)) (by simpa using hid.symm)
theorem anumber_any (own : Nat → Nat) (id idm p : Nat) (s : ByteArray) (L : List ByteArray) (w : World) (h : TabP own id idm w p L) (hid : id ≠ idm) :
    Calls Try.prog 46 #[.pointer (some ⟨p, 0, none⟩), .string s] w
      (Does own [id, idm] w fun own' e w' => e = .returned (.tuple #[.int .i64 (numN L s), .int .i64 (numE L s)]) ∧ TabP own' id idm w' p (numL L s)) := by
  have hfew := h.names.few
  unfold numN numE numL
  by_cases h1 : 200 < s.size
  · simp only [if_pos h1]
    refine (anumber_long own id idm p s L w h h1).mono fun e w' hq => ?_
    obtain ⟨rfl, n, rfl⟩ := hq
    exact ⟨own, (Ext.refl _ _ _).drewN _, rfl, h⟩
  · simp only [if_neg h1]
    by_cases h2 : memB L s = true
    · simp only [if_pos h2]
      refine (anumber_met own id idm p s L w h (by omega) h2).mono fun e w' hq => ?_
      obtain ⟨rfl, n, rfl⟩ := hq
      exact ⟨own, (Ext.refl _ _ _).drewN _, by unfold findN; rw [if_pos h2], h⟩
    · simp only [if_neg h2]
      have h2' : memB L s = false := by simpa using h2
      by_cases h3 : L.length = 4096
      · simp only [if_pos h3]
        refine (anumber_full own id idm p s L w h (by omega) h2' h3).mono fun e w' hq => ?_
        obtain ⟨rfl, n, rfl⟩ := hq
        exact ⟨own, (Ext.refl _ _ _).drewN _, rfl, h⟩
      · simp only [if_neg h3]
        exact anumber_new own id idm p s L w h hid (by omega) h2' (by omega)

set_option maxHeartbeats 1600000 in
set_option maxRecDepth 100000 in
theorem anew_any (own : Nat → Nat) (id idm : Nat) (w : World) (hid : id ≠ idm) : Calls Try.prog 27 #[] w (MadeTab own w id idm) := by
  have hmm := @run_makeMap Try.prog
  have hx0 : Ext own (give own w.heap.size id) [] w (w.alloc (.cells #[.string ⟨#[91, 93]⟩, .string ⟨#[46]⟩] 9)) := ((Ext.refl own [] w).alloc _).give _ _ (Nat.le_refl _)
  have hmap := MapOwn.new (give own w.heap.size id) idm (w.alloc (.cells #[.string ⟨#[91, 93]⟩, .string ⟨#[46]⟩] 9)) Try.prog 9 3
  rw [World.size_alloc] at hmap
  obtain ⟨y1, y2⟩ := hmap
  have hx1 := hx0.trans y1
  have hro : Row (give own w.heap.size id) id (w.alloc (.cells #[.string ⟨#[91, 93]⟩, .string ⟨#[46]⟩] 9)) 9 1 (.slice (some ⟨w.heap.size, 0, none⟩) 2 2) 2 (strs names0) := by
    refine ⟨⟨rfl, Or.inr ⟨_, 2, _, rfl, Nat.zero_le _, heap_alloc_new _ _, by decide, by decide, by decide, ?_⟩⟩, fun k hk => ?_⟩
    · rfl
    · simp [Value.ownBlock] at hk; subst hk; exact give_same _ _ _
  have hro1 := hro.keep y1 (by simp)
  clear hro y1 hx0
  generalize give (give own w.heap.size id) (w.heap.size + 1) idm = o1 at *
  go_enter Try.func27, Try.ntmps27
  go_wp2_with (first | (refine wpList_map_insert _ rfl _ _ _ 122 rfl 9 3 law_str Try.underlying122 hm1 (by decide) rfl _ _ _ rfl rfl (key_str (by decide)) _ (int_elem _ (by decide) (by decide)) ?_; intro w2 hm2 x2 g2) | (refine wpList_map_insert _ rfl _ _ _ 122 rfl 9 3 law_str Try.underlying122 y2 (by decide) rfl _ _ _ rfl rfl (key_str (by decide)) _ (int_elem _ (by decide) (by decide)) ?_; intro w1 hm1 x1 g1))
  go_ret
  have hro2 := (hro1.keep x1 (by simpa using hid)).keep x2 (by simpa using hid)
  have hx2 : Ext own o1 [] w w2 := (hx1.grown g1 (fun k hk hlt => by cases hk; omega)).grown g2 (fun k hk hlt => by cases hk; omega)
  have hsz : w.heap.size ≤ w2.heap.size := hx2.size
  have hN := give_same o1 w2.heap.size id
  have z1 : Ext o1 (give o1 w2.heap.size id) [] w2 (w2.alloc (.cells #[.slice (some ⟨w.heap.size, 0, none⟩) 2 2, .map (some (w.heap.size + 1))] 124)) := ((Ext.refl o1 [] w2).alloc _).give _ _ (Nat.le_refl _)
  refine ⟨give o1 w2.heap.size id, w2.heap.size, hx2.trans z1, rfl, hsz, by simp, _, _, _, ⟨heap_alloc_new _ _, hN⟩, hro2.keep z1 (by simp), hm2.keep z1 (by simp), ?_, names0_ok⟩
  exact (Tells.nil.put Maps.isMap_empty ⟨#[91, 93]⟩ (by decide)).put (Maps.isMap_empty.put _ _) ⟨#[46]⟩ (by decide)

end Go.Proofs.Ytlmcfclonncgbaa
/- What Put lays stands for the term: in plain terms. No program in sight. -/
namespace Go.Proofs.Ytlmcfclonncgbaa
set_option linter.unusedVariables false

mutual
/-- The numbers are of their kinds. -/
def ranged : CT → Prop
  | .var _ => True
  | .atom _ => True
  | .int n => -9223372036854775808 ≤ n ∧ n < 9223372036854775808
  | .cpx re im => 0 ≤ re ∧ 0 ≤ im ∧ re < 18446744073709551616 ∧ im < 18446744073709551616
  | .comp _ args => rangeds args
def rangeds : List CT → Prop
  | [] => True
  | t :: ts => ranged t ∧ rangeds ts
end
mutual
/-- How many cells a term takes, its own place aside. -/
def size : CT → Nat
  | .var _ => 0
  | .atom _ => 0
  | .int n => if isSmall n then 0 else 1
  | .cpx _ _ => 2
  | .comp _ args => 1 + args.length + sizes args
def sizes : List CT → Nat
  | [] => 0
  | t :: ts => size t + sizes ts
end
mutual
theorem size_le : ∀ t : CT, size t + 1 ≤ 3 * nodes t
  | .var _ => by simp only [size, nodes]; omega
  | .atom _ => by simp only [size, nodes]; omega
  | .int n => by simp only [size, nodes]; split <;> omega
  | .cpx _ _ => by simp only [size, nodes]; omega
  | .comp _ args => by simp only [size, nodes]; have := sizes_le args; omega
theorem sizes_le : ∀ l : List CT, sizes l + l.length ≤ 3 * nodesL l
  | [] => by simp [sizes, nodesL]
  | t :: ts => by simp only [sizes, nodesL, List.length_cons]; have := size_le t; have := sizes_le ts; omega
end
/-- One more for a new variable that has no place. -/
def topv (V : List (Int × Int)) : CT → Nat
  | .var n => if look V n = none then 1 else 0
  | _ => 0

theorem rep_occ_aux {W : Nat → Prop} {l : List Int} {L : List ByteArray} : True := trivial
mutual
theorem rep_occ {W : Nat → Prop} {l : List Int} {L : List ByteArray} : ∀ (t : CT) (c n : Int), rep W l L t c → occ n t → ∃ p : Nat, n = p ∧ p < l.length ∧ l.getD p 0 = (p : Int) * 8 ∧ ¬ W p
  | .var m, c, n, h, ho => by obtain ⟨p, h1, h2, h3, h4, _⟩ := h; exact ⟨p, ho.trans h1, h2, h4, h3⟩
  | .atom _, _, _, _, ho => ho.elim
  | .int _, _, _, _, ho => ho.elim
  | .cpx _ _, _, _, _, ho => ho.elim
  | .comp s args, c, n, h, ho => by obtain ⟨p, i, _, _, _, _, _, h⟩ := h; exact reps_occ args (p + 1) n h ho
theorem reps_occ {W : Nat → Prop} {l : List Int} {L : List ByteArray} : ∀ (ts : List CT) (q : Nat) (n : Int), reps W l L ts q → occs n ts → ∃ p : Nat, n = p ∧ p < l.length ∧ l.getD p 0 = (p : Int) * 8 ∧ ¬ W p
  | [], _, _, _, ho => ho.elim
  | t :: ts, q, n, h, ho => by
    rcases ho with ho | ho
    · exact rep_occ t _ n h.2.1 ho
    · exact reps_occ ts (q + 1) n h.2.2 ho
end

structure Inv (W : Nat → Prop) (E : Int → CT) (P : Nat → Prop) (st : SS) : Prop where
  pos : Pos st.l
  names : Names st.L
  slot : ∀ p, P p → p < st.l.length ∧ st.l.getD p 0 = (p : Int) * 8 ∧ ¬ W p
  cell : ∀ n c, look st.V n = some c → 0 ≤ c ∧ rep W st.l st.L (E n) c
  free : ∀ n c, look st.V n = some c → ∀ p : Nat, P p → ¬ occ p (E n)
structure Step (W W' : Nat → Prop) (E E' : Int → CT) (V V' : List (Int × Int)) (n0 : Nat) (vs : Int → Prop) : Prop where
  raw : ∀ p, p < n0 → (W' p ↔ W p)
  old : ∀ n c, look V n = some c → look V' n = some c ∧ E' n = E n
  met : ∀ n, vs n → ∃ c, look V' n = some c
  new : ∀ n c, look V n = none → look V' n = some c → vs n ∧ ∃ q : Nat, E' n = .var q ∧ ∀ m d, m ≠ n → look V' m = some d → ¬ occ q (E' m)
theorem Step.refl {W : Nat → Prop} {E : Int → CT} {V : List (Int × Int)} {n0 : Nat} {vs : Int → Prop} (h : ∀ n, vs n → ∃ c, look V n = some c) : Step W W E E V V n0 vs :=
  ⟨fun _ _ => Iff.rfl, fun n c h => ⟨h, rfl⟩, h, fun n c h1 h2 => by rw [h1] at h2; simp at h2⟩
theorem Step.trans {W W1 W2 : Nat → Prop} {E E1 E2 : Int → CT} {V V1 V2 : List (Int × Int)} {n0 n1 : Nat} {vs us : Int → Prop} (h : Step W W1 E E1 V V1 n0 vs) (k : Step W1 W2 E1 E2 V1 V2 n1 us) (hn : n0 ≤ n1) : Step W W2 E E2 V V2 n0 (fun n => vs n ∨ us n) := by
  refine ⟨fun p hp => (k.raw p (by omega)).trans (h.raw p hp), fun n c hc => ?_, fun n hn => ?_, fun n c h1 h2 => ?_⟩
  · obtain ⟨a, b⟩ := h.old n c hc
    obtain ⟨a', b'⟩ := k.old n c a
    exact ⟨a', b'.trans b⟩
  · rcases hn with hn | hn
    · obtain ⟨c, hc⟩ := h.met n hn
      exact ⟨c, (k.old n c hc).1⟩
    · exact k.met n hn
  · cases h3 : look V1 n with
    | none =>
      obtain ⟨a, b⟩ := k.new n c h3 h2
      exact ⟨Or.inr a, b⟩
    | some d =>
      obtain ⟨a, q, hq, b⟩ := h.new n d h1 h3
      have e := (k.old n d h3).2
      refine ⟨Or.inl a, q, e.trans hq, fun m d' hm hd => ?_⟩
      cases h4 : look V1 m with
      | some d'' => rw [(k.old m d'' h4).2]; exact b m d'' hm h4
      | none =>
        obtain ⟨_, q', hq', b'⟩ := k.new m d' h4 hd
        rw [hq']
        intro ho
        have ho' : (q : Int) = q' := ho
        refine b' n c (Ne.symm hm) h2 ?_
        rw [e, hq]
        exact ho'.symm
theorem Step.mono {W W' : Nat → Prop} {E E' : Int → CT} {V V' : List (Int × Int)} {n0 n1 : Nat} {vs us : Int → Prop} (h : Step W W' E E' V V' n0 vs) (hn : n1 ≤ n0) (hv : ∀ n, vs n ↔ us n) : Step W W' E E' V V' n1 us :=
  ⟨fun p hp => h.raw p (by omega), h.old, fun n hn => h.met n ((hv n).2 hn), fun n c a b => by obtain ⟨x, y⟩ := h.new n c a b; exact ⟨(hv n).1 x, y⟩⟩

/-- More cells behind, more names. -/
theorem Inv.grow {W W' : Nat → Prop} {E : Int → CT} {P : Nat → Prop} {st : SS} (h : Inv W E P st) (m : List Int) (M : List ByteArray) (hm : Pos m) (hM : Names (st.L ++ M)) (hw : ∀ p, p < st.l.length → (W' p ↔ W p)) : Inv W' E P { st with l := st.l ++ m, L := st.L ++ M } := by
  refine ⟨h.pos.append hm, hM, fun p hp => ?_, fun n c hc => ?_, h.free⟩
  · obtain ⟨a, b, c⟩ := h.slot p hp
    exact ⟨by simp only [List.length_append]; omega, by simp only [getD_append a]; exact b, fun hw' => c ((hw p a).1 hw')⟩
  · obtain ⟨a, b⟩ := h.cell n c hc
    exact ⟨a, rep_grow h.pos hw _ _ a b⟩
theorem Inv.fewer {W : Nat → Prop} {E : Int → CT} {P P' : Nat → Prop} {st : SS} (h : Inv W E P st) (hp : ∀ p, P' p → P p) : Inv W E P' st :=
  ⟨h.pos, h.names, fun p hp' => h.slot p (hp p hp'), h.cell, fun n c hc p hp' => h.free n c hc p (hp p hp')⟩

/-- 'f', but for one. -/
def upd (E : Int → CT) (n : Int) (X : CT) : Int → CT := fun m => if m = n then X else E m
theorem upd_same (E : Int → CT) (n : Int) (X : CT) : upd E n X n = X := by simp [upd]
theorem upd_other {E : Int → CT} {n m : Int} {X : CT} (h : m ≠ n) : upd E n X m = E m := by simp [upd, h]

/-- What is said of one Put. -/
structure PutOk (t : CT) (own : Int) (W : Nat → Prop) (E : Int → CT) (P : Nat → Prop) (st : SS) (r : SS × Int × Int) (W' : Nat → Prop) (E' : Int → CT) (m : List Int) (M : List ByteArray) : Prop where
  err : r.2.2 = 0
  l : r.1.l = st.l ++ m
  L : r.1.L = st.L ++ M
  few : M.length ≤ nodes t
  len : m.length = size t + (if own < 0 then topv st.V t else 0)
  step : Step W W' E E' st.V r.1.V st.l.length (fun n => occ n t)
  inv : Inv W' E' (fun p => P p ∧ (p : Int) ≠ own) r.1
  pos : 0 ≤ r.2.1
  rep : rep W' r.1.l r.1.L (subst E' t) r.2.1
  slot : r.2.1 = own * 8 ∨ ∀ p : Nat, own = p → ∀ n c, look r.1.V n = some c → ¬ occ p (E' n)

theorem pushWs_room (most : Int) : ∀ (ws l : List Int), (l.length + ws.length : Int) ≤ most → pushWs most l ws = (l ++ ws, true)
  | [], l, _ => by simp [pushWs]
  | w :: ws, l, h => by
    simp only [List.length_cons] at h
    unfold pushWs
    rw [if_pos (by omega), pushWs_room most ws (l ++ [w]) (by simp; omega)]
    simp
/-- So many variables. -/
def refsL (n : Nat) : Nat → List Int
  | 0 => []
  | k + 1 => (n : Int) * 8 :: refsL (n + 1) k
theorem refsL_length : ∀ (k n : Nat), (refsL n k).length = k
  | 0, _ => rfl
  | k + 1, n => by simp [refsL, refsL_length k]
theorem refsL_get : ∀ (k n i : Nat), i < k → (refsL n k)[i]? = some (((n + i : Nat) : Int) * 8)
  | 0, _, _, h => by omega
  | k + 1, n, 0, _ => by simp [refsL]
  | k + 1, n, i + 1, h => by
    simp only [refsL, List.getElem?_cons_succ]
    rw [refsL_get k (n + 1) i (by omega)]
    congr 2; omega
theorem refsL_pos (k n : Nat) : Pos (refsL n k) := by
  intro x hx
  obtain ⟨i, hi⟩ := List.getElem?_of_mem hx
  have hlt := (List.getElem?_eq_some_iff.1 hi).1
  rw [refsL_length] at hlt
  rw [refsL_get k n i hlt] at hi
  simp at hi
  omega
theorem pushRs_room (most : Int) : ∀ (k : Nat) (l : List Int), (l.length + k : Int) ≤ most → pushRs most l k = (l ++ refsL l.length k, true)
  | 0, l, _ => by simp [pushRs, refsL]
  | k + 1, l, h => by
    unfold pushRs
    rw [if_pos (by omega), pushRs_room most k _ (by simp; omega)]
    simp [refsL]
theorem getD_at {l m : List Int} {i : Nat} : (l ++ m).getD (l.length + i) 0 = m.getD i 0 := by
  simp only [List.getD]; rw [List.getElem?_append_right (by omega)]; simp

/-- Plain words laid. -/
theorem words_ok {most : Int} {t : CT} {own tag : Int} {W : Nat → Prop} {E : Int → CT} {P : Nat → Prop} {st : SS} {ws : List Int} (h : Inv W E P st) (hw : Pos ws) (hroom : (st.l.length + ws.length : Int) ≤ most) (hsz : size t = ws.length) (htv : topv st.V t = 0) (hocc : ∀ n, ¬ occ n t)
    (hown : ∀ p : Nat, own = p → P p) (ht0 : 0 < tag) (ht : tag < 8) (hrep : ∀ W' : Nat → Prop, (∀ i, i < ws.length → W' (st.l.length + i)) → rep W' (st.l ++ ws) st.L t ((st.l.length : Int) * 8 + tag)) :
    ∃ W', PutOk t own W E P st (wordsT most tag ws st) W' E ws [] := by
  have e : wordsT most tag ws st = ({ st with l := st.l ++ ws }, (st.l.length : Int) * 8 + tag, 0) := by
    unfold wordsT; rw [pushWs_room most ws st.l hroom]; simp
  rw [e]
  have hW : ∀ p, p < st.l.length → ((fun p => if p < st.l.length then W p else True) p ↔ W p) := fun p hp => by simp [hp]
  refine ⟨fun p => if p < st.l.length then W p else True, rfl, rfl, by simp, by simp, by rw [hsz, htv]; simp, ?_, ?_, by simp only []; omega, ?_, Or.inr ?_⟩
  · exact ⟨hW, fun n c h => ⟨h, rfl⟩, fun n hn => absurd hn (hocc n), fun n c h1 h2 => by dsimp only at h2; rw [h1] at h2; simp at h2⟩
  · have := (h.grow ws [] hw (by simpa using h.names) hW).fewer (P' := fun p => P p ∧ (p : Int) ≠ own) (fun p hp => hp.1)
    simpa using this
  · have : subst E t = t := by rw [subst_congr (g := .var) t (fun n hn => absurd hn (hocc n)), subst_var]
    rw [this]
    exact hrep _ (fun i _ => by rw [if_neg (by omega)]; trivial)
  · intro p hp n c hc ho
    exact h.free n c hc p (hown p hp) ho

theorem names_num {most : Int} {W : Nat → Prop} {E : Int → CT} {P : Nat → Prop} {st : SS} (h : Inv W E P st) (s : ByteArray) (hs : s.size ≤ 200) (hl : st.L.length + 1 ≤ 4096) :
    numE st.L s = 0 ∧ ∃ M i, numL st.L s = st.L ++ M ∧ M.length ≤ 1 ∧ numN st.L s = (i : Nat) ∧ (st.L ++ M)[i]? = some s ∧ Names (st.L ++ M) := by
  obtain ⟨a, b, c⟩ := numL_mem st.L s hs (by omega)
  obtain ⟨M, hM, hM1⟩ := numL_pre st.L s
  refine ⟨b, M, _, hM, hM1, c, ?_, hM ▸ h.names.num s⟩
  rw [← hM]
  exact idxL_get _ _ (by simpa [memB] using a)

/-- What is said of the arguments of one Put. -/
structure ArgsOk (ts : List CT) (p : Nat) (W : Nat → Prop) (E : Int → CT) (P : Nat → Prop) (st : SS) (r : SS × Int) (W' : Nat → Prop) (E' : Int → CT) (M : List ByteArray) : Prop where
  err : r.2 = 0
  L : r.1.L = st.L ++ M
  few : M.length ≤ nodesL ts
  len : r.1.l.length = st.l.length + sizes ts
  same : ∀ q, q < st.l.length → (∀ i, i < ts.length → q ≠ p + i) → r.1.l[q]? = st.l[q]?
  step : Step W W' E E' st.V r.1.V st.l.length (fun n => occs n ts)
  inv : Inv W' E' (fun q => P q ∧ ∀ i, i < ts.length → q ≠ p + i) r.1
  rep : reps W' r.1.l r.1.L (substs E' ts) p
  keep : ∀ T c, 0 ≤ c → Ytlmcfclonncgbaa.rep W st.l st.L T c → (∀ i, i < ts.length → ¬ occ ((p + i : Nat) : Int) T) → Ytlmcfclonncgbaa.rep W' r.1.l r.1.L T c

mutual
theorem putT_ok (most : Int) : ∀ (t : CT) (own : Int) (st : SS) (W : Nat → Prop) (E : Int → CT) (P : Nat → Prop), Inv W E P st → fine t → ranged t → (∀ p : Nat, own = p → P p) →
    (st.l.length + size t + (if own < 0 then topv st.V t else 0) : Int) ≤ most → st.L.length + nodes t ≤ 4096 →
    ∃ W' E' m M, PutOk t own W E P st (putT most t own st) W' E' m M
  | .var n, own, st, W, E, P, h, hf, hr, hown, hroom, hnames => by
    cases hv : look st.V n with
    | some c =>
      have e : putT most (.var n) own st = (st, c, 0) := by simp only [putT, varT, hv]
      rw [e]
      obtain ⟨a, b⟩ := h.cell n c hv
      refine ⟨W, E, [], [], rfl, by simp, by simp, by simp, by simp [size, topv, hv], Step.refl (fun m hm => ?_), h.fewer (fun p hp => hp.1), a, b, Or.inr fun p hp n c hc => h.free n c hc p (hown p hp)⟩
      have hm' : m = n := hm
      subst hm'
      exact ⟨c, hv⟩
    | none =>
      by_cases ho : own < 0
      · rw [if_pos ho] at hroom
        simp only [size, topv, hv, if_true] at hroom
        have e : putT most (.var n) own st = ({ st with l := st.l ++ [(st.l.length : Int) * 8], V := st.V ++ [(n, (st.l.length : Int) * 8)] }, (st.l.length : Int) * 8, 0) := by
          simp only [putT, varT, hv]; rw [if_pos ho, if_pos (by omega)]
        rw [e]
        have hW : ∀ p, p < st.l.length → ((fun p => if p < st.l.length then W p else False) p ↔ W p) := fun p hp => by simp [hp]
        have hg := h.grow [(st.l.length : Int) * 8] [] (by intro x hx; simp at hx; omega) (by simpa using h.names) hW
        simp only [List.append_nil] at hg
        have hat : (st.l ++ [(st.l.length : Int) * 8]).getD st.l.length 0 = (st.l.length : Int) * 8 := by
          simp
        have hself : Ytlmcfclonncgbaa.rep (fun p => if p < st.l.length then W p else False) (st.l ++ [(st.l.length : Int) * 8]) st.L (.var (st.l.length : Nat)) ((st.l.length : Int) * 8) :=
          ⟨st.l.length, rfl, by simp, by simp, hat, Ch.self (Or.inr (by rw [show ((st.l.length : Int) * 8 / 8).toNat = st.l.length by omega]; exact hat))⟩
        have hlook : ∀ m d, look (st.V ++ [(n, (st.l.length : Int) * 8)]) m = some d → (m = n ∧ d = (st.l.length : Int) * 8) ∨ (m ≠ n ∧ look st.V m = some d) := by
          intro m d hd
          by_cases hm : m = n
          · subst hm; rw [look_new hv] at hd; exact Or.inl ⟨rfl, (Option.some.inj hd).symm⟩
          · rw [look_old hm] at hd; exact Or.inr ⟨hm, hd⟩
        refine ⟨fun p => if p < st.l.length then W p else False, upd E n (.var (st.l.length : Nat)), _, [], rfl, rfl, by simp, by simp, by simp [size, topv, hv, ho], ?_, ?_, by simp only []; omega, ?_, Or.inr fun p hp => by omega⟩
        · refine ⟨hW, fun m c hc => ?_, fun m hm => ?_, fun m c h1 h2 => ?_⟩
          · have hne : m ≠ n := by rintro rfl; rw [hv] at hc; simp at hc
            exact ⟨by rw [look_old hne]; exact hc, upd_other hne⟩
          · have hm' : m = n := hm
            subst hm'
            exact ⟨_, look_new hv⟩
          · rcases hlook m c h2 with ⟨rfl, rfl⟩ | ⟨_, h3⟩
            · refine ⟨rfl, st.l.length, upd_same _ _ _, fun k d hk hd => ?_⟩
              rcases hlook k d hd with ⟨rfl, _⟩ | ⟨_, h3⟩
              · exact absurd rfl hk
              · rw [upd_other hk]
                intro hoc
                obtain ⟨q, q1, q2, _⟩ := rep_occ _ _ _ (h.cell k d h3).2 hoc
                omega
            · rw [h1] at h3; simp at h3
        · refine ⟨hg.pos, hg.names, fun p hp => hg.slot p hp.1, fun m c hc => ?_, fun m c hc p hp => ?_⟩
          · rcases hlook m c hc with ⟨rfl, rfl⟩ | ⟨hne, h3⟩
            · rw [upd_same]; exact ⟨by omega, hself⟩
            · rw [upd_other hne]; exact hg.cell m c h3
          · rcases hlook m c hc with ⟨rfl, rfl⟩ | ⟨hne, h3⟩
            · rw [upd_same]
              intro hoc
              have hoc' : (p : Int) = (st.l.length : Nat) := hoc
              have := (h.slot p hp.1).1
              omega
            · rw [upd_other hne]; exact hg.free m c h3 p hp.1
        · simp only [subst, upd_same]; exact hself
      · obtain ⟨p, rfl⟩ : ∃ p : Nat, own = p := ⟨own.toNat, by omega⟩
        have hP := hown p rfl
        obtain ⟨s1, s2, s3⟩ := h.slot p hP
        have e : putT most (.var n) p st = ({ st with V := st.V ++ [(n, (p : Int) * 8)] }, (p : Int) * 8, 0) := by
          simp only [putT, varT, hv]; rw [if_neg (by omega)]
        rw [e]
        have hself : Ytlmcfclonncgbaa.rep W st.l st.L (.var p) ((p : Int) * 8) :=
          ⟨p, rfl, s1, s3, s2, Ch.self (Or.inr (by rw [show ((p : Int) * 8 / 8).toNat = p by omega]; exact s2))⟩
        have hlook : ∀ m d, look (st.V ++ [(n, (p : Int) * 8)]) m = some d → (m = n ∧ d = (p : Int) * 8) ∨ (m ≠ n ∧ look st.V m = some d) := by
          intro m d hd
          by_cases hm : m = n
          · subst hm; rw [look_new hv] at hd; exact Or.inl ⟨rfl, (Option.some.inj hd).symm⟩
          · rw [look_old hm] at hd; exact Or.inr ⟨hm, hd⟩
        refine ⟨W, upd E n (.var p), [], [], rfl, by simp, by simp, by simp, by simp [size, ho], ?_, ?_, by simp only []; omega, ?_, Or.inl rfl⟩
        · refine ⟨fun _ _ => Iff.rfl, fun m c hc => ?_, fun m hm => ?_, fun m c h1 h2 => ?_⟩
          · have hne : m ≠ n := by rintro rfl; rw [hv] at hc; simp at hc
            exact ⟨by rw [look_old hne]; exact hc, upd_other hne⟩
          · have hm' : m = n := hm
            subst hm'
            exact ⟨_, look_new hv⟩
          · rcases hlook m c h2 with ⟨rfl, rfl⟩ | ⟨_, h3⟩
            · refine ⟨rfl, p, upd_same _ _ _, fun k d hk hd => ?_⟩
              rcases hlook k d hd with ⟨rfl, _⟩ | ⟨_, h3⟩
              · exact absurd rfl hk
              · rw [upd_other hk]
                exact h.free k d h3 p hP
            · rw [h1] at h3; simp at h3
        · refine ⟨h.pos, h.names, fun p hp => h.slot p hp.1, fun m c hc => ?_, fun m c hc q hq => ?_⟩
          · rcases hlook m c hc with ⟨rfl, rfl⟩ | ⟨hne, h3⟩
            · rw [upd_same]; exact ⟨by omega, hself⟩
            · rw [upd_other hne]; exact h.cell m c h3
          · rcases hlook m c hc with ⟨rfl, rfl⟩ | ⟨hne, h3⟩
            · rw [upd_same]
              intro hoc
              have hoc' : (q : Int) = p := hoc
              exact hq.2 hoc'
            · rw [upd_other hne]; exact h.free m c h3 q hq.1
        · simp only [subst, upd_same]; exact hself
  | .atom s, own, st, W, E, P, h, hf, hr, hown, hroom, hnames => by
    obtain ⟨e0, M, i, e1, e2, e3, e4, e5⟩ := names_num (most := most) h s hf (by simp only [nodes] at hnames; omega)
    have e : putT most (.atom s) own st = ({ st with L := st.L ++ M }, (i : Int) * 8 + 2, 0) := by simp only [putT, e0, e1, e3]
    rw [e]
    have hg := h.grow [] M (by intro x hx; simp at hx) e5 (W' := W) (fun _ _ => Iff.rfl)
    simp only [List.append_nil] at hg
    refine ⟨W, E, [], M, rfl, by simp, rfl, by simpa [nodes] using e2, by simp [size, topv], ⟨fun _ _ => Iff.rfl, fun n c h => ⟨h, rfl⟩, fun n hn => hn.elim, fun n c h1 h2 => by dsimp only at h2; rw [h1] at h2; simp at h2⟩, hg.fewer (fun p hp => hp.1), by simp only []; omega, ?_, Or.inr fun p hp n c hc => h.free n c hc p (hown p hp)⟩
    exact ⟨i, e4, Ch.self (Or.inl (by show ((i : Int) * 8 + 2) % 8 ≠ 0; omega))⟩
  | .int n, own, st, W, E, P, h, hf, hr, hown, hroom, hnames => by
    by_cases hs : isSmall n
    · have e : putT most (.int n) own st = (st, smallC n, 0) := by simp only [putT]; rw [if_pos hs]
      rw [e]
      refine ⟨W, E, [], [], rfl, by simp, by simp, by simp, by simp [size, topv, hs], Step.refl (fun n hn => hn.elim), h.fewer (fun p hp => hp.1), by simp only []; unfold smallC; omega, Or.inl ⟨hs, Ch.self (Or.inl (by simp only []; unfold smallC; omega))⟩, Or.inr fun p hp n c hc => h.free n c hc p (hown p hp)⟩
    · have e : putT most (.int n) own st = wordsT most 4 [u64 n] st := by simp only [putT]; rw [if_neg hs]
      rw [e]
      have hz : size (.int n) = [u64 n].length := by simp [size, hs]
      rw [hz] at hroom
      obtain ⟨W', hp⟩ := words_ok (t := .int n) (own := own) (tag := 4) (ws := [u64 n]) h (by intro x hx; simp at hx; subst hx; unfold u64; omega) (by simp only [topv] at hroom; split at hroom <;> simp at hroom ⊢ <;> omega) hz rfl (fun _ => id) hown (by omega) (by omega) (fun W' hW => by
        refine Or.inr ⟨hs, hr.1, hr.2, st.l.length, by simp, hW 0 (by simp), ?_, Ch.self (Or.inl (by omega))⟩
        simp [u64])
      exact ⟨W', E, _, _, hp⟩
  | .cpx re im, own, st, W, E, P, h, hf, hr, hown, hroom, hnames => by
    have e : putT most (.cpx re im) own st = wordsT most 5 [re, im] st := by simp only [putT]
    rw [e]
    have hz : size (.cpx re im) = [re, im].length := by simp [size]
    rw [hz] at hroom
    obtain ⟨h1, h2, h3, h4⟩ := hr
    obtain ⟨W', hp⟩ := words_ok (t := .cpx re im) (own := own) (tag := 5) (ws := [re, im]) h (by intro x hx; simp at hx; rcases hx with rfl | rfl <;> assumption) (by simp only [topv] at hroom; split at hroom <;> simp at hroom ⊢ <;> omega) hz rfl (fun _ => id) hown (by omega) (by omega) (fun W' hW => by
      refine ⟨st.l.length, by simp, hW 0 (by simp), hW 1 (by simp), ?_, ?_, Ch.self (Or.inl (by omega))⟩
      · simp
      · simp)
    exact ⟨W', E, _, _, hp⟩
  | .comp s args, own, st, W, E, P, h, hf, hr, hown, hroom, hnames => by
    obtain ⟨f1, f2, f3, f4⟩ := hf
    simp only [size, topv, nodes] at hroom hnames
    obtain ⟨e0, M, i, e1, e2, e3, e4, e5⟩ := names_num (most := most) h s f1 (by omega)
    have hi0 : ((i : Int)).toNat = i := by omega
    have hr0 : (st.l.length + 1 + args.length + sizes args : Int) ≤ most := by split at hroom <;> omega
    have ec : compT most s args.length st = ({ st with l := st.l ++ (funC i args.length :: refsL (st.l.length + 1) args.length), L := st.L ++ M }, st.l.length, 0) := by
      unfold compT
      rw [if_neg (by simp [e0]), if_pos (by omega), e3, hi0, pushRs_room most args.length _ (by simp; omega), e1]
      simp
    have e : putT most (.comp s args) own st = ((putArgs most args (st.l.length + 1) { st with l := st.l ++ (funC i args.length :: refsL (st.l.length + 1) args.length), L := st.L ++ M }).1, (st.l.length : Int) * 8 + 1, (putArgs most args (st.l.length + 1) { st with l := st.l ++ (funC i args.length :: refsL (st.l.length + 1) args.length), L := st.L ++ M }).2) := by
      simp only [putT, ec]
      rw [if_neg (by simp)]
    have hW : ∀ p, p < st.l.length → ((fun p => if p < st.l.length then W p else False) p ↔ W p) := fun p hp => by simp [hp]
    have hg := h.grow (funC i args.length :: refsL (st.l.length + 1) args.length) M (by
      intro x hx
      rcases List.mem_cons.1 hx with rfl | hx
      · unfold funC; omega
      · exact refsL_pos _ _ x hx) e5 hW
    have hsl : ∀ j, j < args.length → (st.l ++ (funC i args.length :: refsL (st.l.length + 1) args.length)).getD (st.l.length + 1 + j) 0 = ((st.l.length + 1 + j : Nat) : Int) * 8 := by
      intro j hj
      rw [Nat.add_assoc, getD_at, Nat.add_comm 1 j]
      simp only [List.getD, List.getElem?_cons_succ]
      rw [refsL_get _ _ _ hj]
      simp only [Option.getD_some]
      congr 2; omega
    have hg2 : Inv (fun p => if p < st.l.length then W p else False) E (fun p => P p ∨ ∃ j, j < args.length ∧ p = st.l.length + 1 + j) { st with l := st.l ++ (funC i args.length :: refsL (st.l.length + 1) args.length), L := st.L ++ M } := by
      refine ⟨hg.pos, hg.names, fun p hp => ?_, hg.cell, fun n c hc p hp => ?_⟩
      · rcases hp with hp | ⟨j, hj, rfl⟩
        · exact hg.slot p hp
        · refine ⟨by simp only [List.length_append, List.length_cons, refsL_length]; omega, hsl j hj, by simp; omega⟩
      · rcases hp with hp | ⟨j, hj, rfl⟩
        · exact hg.free n c hc p hp
        · intro ho
          obtain ⟨q, q1, q2, _⟩ := rep_occ _ _ _ (h.cell n c hc).2 ho
          omega
    have hlen : (st.l ++ (funC i args.length :: refsL (st.l.length + 1) args.length)).length = st.l.length + 1 + args.length := by simp [refsL_length]; omega
    obtain ⟨W', E', M', ao⟩ := putArgs_ok most args (st.l.length + 1) _ _ E _ hg2 f4 hr (fun j hj => Or.inr ⟨j, hj, rfl⟩) (by dsimp only; rw [hlen]; omega) (by dsimp only; simp only [List.length_append]; omega)
    rw [e]
    generalize putArgs most args (st.l.length + 1) { st with l := st.l ++ (funC i args.length :: refsL (st.l.length + 1) args.length), L := st.L ++ M } = r at ao
    obtain ⟨a1, a2, a3, a4, a5, a6, a7, a8, a9⟩ := ao
    dsimp only at a2 a4 a5 a6 a9
    rw [hlen] at a4 a5 a6
    have hpre : ∀ q, q < st.l.length + 1 → r.1.l[q]? = (st.l ++ (funC i args.length :: refsL (st.l.length + 1) args.length))[q]? := fun q hq => a5 q (by omega) (fun j _ => by omega)
    have hl : r.1.l = st.l ++ r.1.l.drop st.l.length := by
      conv => lhs; rw [← List.take_append_drop st.l.length r.1.l]
      congr 1
      apply List.ext_getElem?
      intro q
      rw [List.getElem?_take]
      split
      · rw [hpre q (by omega), List.getElem?_append_left (by assumption)]
      · rw [List.getElem?_eq_none (by omega)]
    have hfun : r.1.l.getD st.l.length 0 = funC i args.length := by
      simp only [List.getD]
      rw [hpre _ (by omega), List.getElem?_append_right (by omega)]
      simp
    have st1 : Step W (fun p => if p < st.l.length then W p else False) E E st.V st.V st.l.length (fun _ => False) :=
      ⟨hW, fun n c h => ⟨h, rfl⟩, fun n hn => hn.elim, fun n c h1 h2 => by rw [h1] at h2; simp at h2⟩
    have st2 := st1.trans a6 (by omega)
    refine ⟨W', E', _, M ++ M', a1, hl, by rw [a2, List.append_assoc], by simp only [List.length_append, nodes]; omega, ?_, st2.mono (Nat.le_refl _) (fun n => by simp [occ]), ?_, by simp only []; omega, ?_, ?_⟩
    · rw [List.length_drop, a4]; simp only [size, topv]; split <;> omega
    · refine a7.fewer (fun p hp => ⟨Or.inl hp.1, fun j _ => ?_⟩)
      have := (h.slot p hp.1).1
      omega
    · refine ⟨st.l.length, i, by rw [a4, substs_length]; omega, ?_, by rw [hfun, substs_length], ?_, Ch.self (Or.inl (by show ((st.l.length : Int) * 8 + 1) % 8 ≠ 0; omega)), a8⟩
      · intro hw
        have := (a6.raw st.l.length (by omega)).1 hw
        simp at this
      · rw [a2, List.getElem?_append_left (List.getElem?_eq_some_iff.1 e4).1]; exact e4
    · refine Or.inr fun p hp n c hc => a7.free n c hc p ⟨Or.inl (hown p hp), fun j _ => ?_⟩
      have := (h.slot p (hown p hp)).1
      omega
theorem putArgs_ok (most : Int) : ∀ (ts : List CT) (p : Nat) (st : SS) (W : Nat → Prop) (E : Int → CT) (P : Nat → Prop), Inv W E P st → fines ts → rangeds ts → (∀ i, i < ts.length → P (p + i)) →
    (st.l.length + sizes ts : Int) ≤ most → st.L.length + nodesL ts ≤ 4096 →
    ∃ W' E' M, ArgsOk ts p W E P st (putArgs most ts p st) W' E' M
  | [], p, st, W, E, P, h, _, _, hP, hroom, hnames => by
    refine ⟨W, E, [], rfl, by simp [putArgs], by simp, by simp [putArgs, sizes], fun _ _ _ => rfl, Step.refl (fun n hn => hn.elim), h.fewer (fun q hq => hq.1), trivial, fun T c hc hT _ => hT⟩
  | a :: rs, p, st, W, E, P, h, hf, hr, hP, hroom, hnames => by
    simp only [sizes, nodesL] at hroom hnames
    obtain ⟨W1, E1, m, M, b⟩ := putT_ok most a p st W E P h hf.1 hr.1 (fun q hq => by
      have e : q = p + 0 := by omega
      rw [e]; exact hP 0 (by simp)) (by rw [if_neg (by omega)]; omega) (by omega)
    have hPp : P p := hP 0 (by simp)
    obtain ⟨s1, s2, s3⟩ := h.slot p hPp
    have e : putArgs most (a :: rs) p st = putArgs most rs (p + 1) { (putT most a p st).1 with l := (putT most a p st).1.l.set p (putT most a p st).2.1 } := by
      simp only [putArgs]; rw [if_neg (by simp [b.err])]
    rw [e]
    obtain ⟨b1, b2, b3, b4, b5, b6, b7, b8, b9, b10⟩ := b
    generalize putT most a p st = r1 at *
    rw [if_neg (by omega), Nat.add_zero] at b5
    have hlen1 : r1.1.l.length = st.l.length + size a := by rw [b2, List.length_append, b5]
    have t2 : r1.1.l.getD p 0 = (p : Int) * 8 := by rw [b2, getD_append s1]; exact s2
    have t3 : ¬ W1 p := fun hw => s3 ((b6.raw p s1).1 hw)
    have t1 : p < r1.1.l.length := by omega
    have hX0 : r1.2.1 = (p : Int) * 8 ∨ ∀ n c, look r1.1.V n = some c → ¬ occ p (E1 n) := b10.imp id (fun hh n c hc => hh p rfl n c hc)
    -- what stands in a term of known variables
    have hnot : ∀ T c, 0 ≤ c → Ytlmcfclonncgbaa.rep W1 r1.1.l r1.1.L T c → (r1.2.1 = (p : Int) * 8 ∨ ¬ occ p T) → Ytlmcfclonncgbaa.rep W1 (r1.1.l.set p r1.2.1) r1.1.L T c := by
      intro T c hc hT ho
      rcases ho with ho | ho
      · have : r1.1.l.set p r1.2.1 = r1.1.l := by
          apply List.ext_getElem?
          intro j
          rw [List.getElem?_set]
          split
          · rename_i hj; subst hj
            rw [ho, ← t2]
            simp [List.getD, List.getElem?_eq_getElem t1]
          · rfl
        rw [this]; exact hT
      · exact rep_set_not b7.pos t2 t3 T c hc ho hT
    have hinv2 : Inv W1 E1 (fun q => P q ∧ (q : Int) ≠ p) { r1.1 with l := r1.1.l.set p r1.2.1 } := by
      refine ⟨b7.pos.set b8, b7.names, fun q hq => ?_, fun n c hc => ?_, b7.free⟩
      · obtain ⟨u1, u2, u3⟩ := b7.slot q hq
        have := hq.2
        exact ⟨by rw [List.length_set]; exact u1, by rw [getD_set, if_neg (by omega)]; exact u2, u3⟩
      · obtain ⟨u1, u2⟩ := b7.cell n c hc
        exact ⟨u1, hnot _ _ u1 u2 (hX0.imp id (fun hh => hh n c hc))⟩
    have hoc : ∀ q : Int, occ q (subst E1 a) → ∃ n c, look r1.1.V n = some c ∧ occ q (E1 n) := by
      intro q hq
      obtain ⟨n, h1, h2⟩ := (occ_subst E1 a q).1 hq
      obtain ⟨c, hc⟩ := b6.met n h1
      exact ⟨n, c, hc, h2⟩
    have hX : Ytlmcfclonncgbaa.rep W1 (r1.1.l.set p r1.2.1) r1.1.L (subst E1 a) r1.2.1 := hnot _ _ b8 b9 (hX0.imp id (fun hh ho => by
      obtain ⟨n, c, hc, h2⟩ := hoc p ho
      exact hh n c hc h2))
    obtain ⟨W2, E2, M2, c⟩ := putArgs_ok most rs (p + 1) _ W1 E1 _ hinv2 hf.2 hr.2 (fun i hi => ⟨by have := hP (i + 1) (by simp; omega); rw [show p + 1 + i = p + (i + 1) by omega]; exact this, by omega⟩) (by dsimp only; rw [List.length_set, hlen1]; omega) (by dsimp only; rw [b3, List.length_append]; omega)
    generalize putArgs most rs (p + 1) { r1.1 with l := r1.1.l.set p r1.2.1 } = r2 at *
    obtain ⟨c1, c2, c3, c4, c5, c6, c7, c8, c9⟩ := c
    dsimp only at c2 c4 c5 c6 c9
    rw [List.length_set] at c4 c5 c6
    have hat : r2.1.l.getD p 0 = r1.2.1 := by
      have := c5 p t1 (fun i _ => by omega)
      simp only [List.getD]
      rw [this, List.getElem?_set, if_pos rfl, if_pos t1]
      rfl
    have heq : subst E2 a = subst E1 a := subst_congr a (fun n hn => by
      obtain ⟨c, hc⟩ := b6.met n hn
      exact (c6.old n c hc).2)
    refine ⟨W2, E2, M ++ M2, c1, by rw [c2, b3, List.append_assoc], by simp only [List.length_append, nodesL]; omega, by rw [c4, hlen1]; simp only [sizes]; omega, ?_, ?_, ?_, ?_, ?_⟩
    · intro q hq hne
      have h0 := hne 0 (by simp)
      rw [c5 q (by omega) (fun i hi => by have := hne (i + 1) (by simp; omega); omega), List.getElem?_set, if_neg (by omega), b2, List.getElem?_append_left hq]
    · exact (b6.trans c6 (by omega)).mono (Nat.le_refl _) (fun n => by simp [occs])
    · refine c7.fewer (fun q hq => ⟨⟨hq.1, ?_⟩, fun i hi => ?_⟩)
      · have := hq.2 0 (by simp); omega
      · have := hq.2 (i + 1) (by simp; omega); omega
    · refine ⟨fun hw => t3 ((c6.raw p t1).1 hw), ?_, c8⟩
      rw [hat, heq]
      refine c9 _ _ b8 hX (fun i hi ho => ?_)
      obtain ⟨n, c, hc, h2⟩ := hoc _ ho
      exact b7.free n c hc (p + 1 + i) ⟨by have := hP (i + 1) (by simp; omega); rw [show p + 1 + i = p + (i + 1) by omega]; exact this, by omega⟩ h2
    · intro T d hd hT hno
      refine c9 T d hd (hnot T d hd ?_ (Or.inr (by have := hno 0 (by simp); simpa using this))) (fun i hi ho => hno (i + 1) (by simp; omega) (by rw [show p + (i + 1) = p + 1 + i by omega]; exact ho))
      rw [b2, b3]
      exact rep_grow h.pos (fun q hq => b6.raw q hq) T d hd hT
end
end Go.Proofs.Ytlmcfclonncgbaa
