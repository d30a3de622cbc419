/- A term's cell laid (package store). -/
import Derived.Test.YtlmcfclonncgbaaComp
namespace Go.Proofs.Ytlmcfclonncgbaa
open Go.RowKit
set_option linter.unusedVariables false
set_option linter.unusedSimpArgs false

/-- What (*layer).cell leaves: the heap, the names, the variables; the stack of what is still to be laid has grown by K. -/
structure CellEnd (own : Nat → Nat) (idh ida idm idy idv : Nat) (w : World) (y ph pa mb : Nat) (most : Int) (stk : List TD) (N : Nat) (st : SS) (P : List TD → Prop) : Prop where
  hp : HP own idh w ph most st.l
  tab : TabP own ida idm w pa st.L
  vars : VP own idv w mb st.V
  lay : ∃ v K, LB own idy w y ph pa mb v ∧ Row own idy w 127 9 v (N + List.length K) (tdCells (stk ++ K)) ∧ K.length ≤ 21 ∧ P K
/-- All that (*layer).cell works on. -/
structure Lay (own : Nat → Nat) (idh ida idm idy idv : Nat) (w : World) (y ph pa mb : Nat) (most : Int) (stk : List TD) (N : Nat) (st : SS) : Prop where
  hp : HP own idh w ph most st.l
  tab : TabP own ida idm w pa st.L
  vars : VP own idv w mb st.V
  row : ∃ v, LB own idy w y ph pa mb v ∧ Row own idy w 127 9 v N (tdCells stk)
  len : stk.length = N
  few : N ≤ 100000000
  vfew : st.V.length < 1000000
/-- The owners are of one each. -/
structure Ids (idh ida idm idy idv : Nat) : Prop where
  h0 : idh ≠ 0
  a0 : ida ≠ 0
  m0 : idm ≠ 0
  y0 : idy ≠ 0
  v0 : idv ≠ 0
  ha : idh ≠ ida
  hm : idh ≠ idm
  hy : idh ≠ idy
  hv : idh ≠ idv
  am : ida ≠ idm
  ay : ida ≠ idy
  av : ida ≠ idv
  my : idm ≠ idy
  mv : idm ≠ idv
  yv : idy ≠ idv
theorem two_words {w : World} {b : Nat} {a c : Int} (h0 : w.cell? ⟨b, 0, none⟩ = some (.int .u64 a)) (h1 : w.cell? ⟨b, 1, none⟩ = some (.int .u64 c)) : ∀ j, j < 2 → w.cell? ⟨b, j, none⟩ = some (.int .u64 ([a, c].getD j 0)) := by
  intro j hj
  rcases j with _ | _ | j
  · exact h0
  · exact h1
  · omega
theorem small_yes (n : Int) (w : World) (h : -9223372036854775808 ≤ n ∧ n ≤ 9223372036854775807) (hs : isSmall n) : Calls Try.prog 121 #[.int .i64 n] w fun e w' => e = .returned (.tuple #[.int .u64 (smallC n), .bool true]) ∧ w' = w := by
  have := small_any n w h.1 h.2
  rwa [if_pos hs, decide_eq_true hs] at this
theorem small_no (n : Int) (w : World) (h : -9223372036854775808 ≤ n ∧ n ≤ 9223372036854775807) (hs : ¬ isSmall n) : Calls Try.prog 121 #[.int .i64 n] w fun e w' => e = .returned (.tuple #[.int .u64 0, .bool false]) ∧ w' = w := by
  have := small_any n w h.1 h.2
  rwa [if_neg hs, decide_eq_false hs] at this
theorem one_word {w : World} {b : Nat} {a : Int} (h0 : w.cell? ⟨b, 0, none⟩ = some (.int .u64 a)) : ∀ j, j < 1 → w.cell? ⟨b, j, none⟩ = some (.int .u64 ([a].getD j 0)) := by
  intro j hj
  obtain rfl : j = 0 := by omega
  exact h0
theorem numN_range {L : List ByteArray} (s : ByteArray) (h : L.length ≤ 4096) : 0 ≤ numN L s ∧ numN L s ≤ 4096 := by
  unfold numN
  split
  · simp
  · split
    · rename_i h1
      have : idxL L s < L.length := by simpa [memB] using h1
      omega
    · split
      · simp
      · omega
theorem compT_V (most : Int) (s : ByteArray) (k : Nat) (st : SS) : (compT most s k st).1.V = st.V := by unfold compT; split <;> (try split) <;> rfl
theorem varT_L (most n own : Int) (st : SS) : (varT most n own st).1.L = st.L := by unfold varT; split <;> (try split) <;> (try split) <;> rfl
theorem wordsT_L (most tag : Int) (ws : List Int) (st : SS) : (wordsT most tag ws st).1.L = st.L := by unfold wordsT; split <;> rfl
theorem wordsT_V (most tag : Int) (ws : List Int) (st : SS) : (wordsT most tag ws st).1.V = st.V := by unfold wordsT; split <;> rfl
set_option maxRecDepth 100000 in
set_option maxHeartbeats 4000000 in
theorem ycell_var (own : Nat → Nat) (idh ida idm idy idv : Nat) (hids : Ids idh ida idm idy idv) (w : World) (y ph pa mb : Nat) (most : Int) (stk : List TD) (N : Nat) (st : SS) (h : Lay own idh ida idm idy idv w y ph pa mb most stk N st)
    (s : ByteArray) (n re im : Int) (args : List Tm) (A : Option Addr) (len cap : Nat) (at_ : Int) (laid : Bool) (x : Int) (hr : -9223372036854775808 ≤ n ∧ n ≤ 9223372036854775807) (ha1 : at_ < 1048576) :
    Calls Try.prog 87 #[.pointer (some ⟨y, 0, none⟩), TD.val ⟨.mk 1 s n re im args, A, len, cap, at_, laid, x⟩] w (Does own [idh, ida, idm, idy, idv] w fun own' e w' => e = .returned (retC (varT most n at_ st)) ∧ CellEnd own' idh ida idm idy idv w' y ph pa mb most stk N (varT most n at_ st).1 (· = [])) := by
  obtain ⟨l, L, V⟩ := st
  obtain ⟨i1, i2, i3, i4, i5, i6, i7, i8, i9, i10, i11, i12, i13, i14, i15⟩ := hids
  obtain ⟨hh, ha, hV, ⟨v, hb, hR⟩, hN, hNb, hVl⟩ := h
  dsimp only at hh ha hV hVl
  have e : TD.val ⟨.mk 1 s n re im args, A, len, cap, at_, laid, x⟩ = .agg #[.int .i64 1, .string s, .int .i64 n, .int .u64 re, .int .u64 im, .slice A len cap, .int .i64 at_, .bool laid, .int .u64 x] := rfl
  rw [e]
  obtain ⟨F0, hF0, hF⟩ := own_ne own w.heap.size
  obtain ⟨x1, kb, y1⟩ := (Ext.refl own [idh, ida, idm, idy, idv] w).box [.int .i64 1, .string s, .int .i64 n, .int .u64 re, .int .u64 im, .slice A len cap, .int .i64 at_, .bool laid, .int .u64 x] 127 (F0 + idh + ida + idm + idy + idv + 1)
  obtain ⟨G, hG⟩ : ∃ G, F0 + idh + ida + idm + idy + idv + 1 = G := ⟨_, rfl⟩
  rw [hG] at x1 kb y1
  replace hb := Blk.keep hb y1 (by simp)
  replace hR := hR.keep y1 (by simp)
  replace hh := hh.keep y1 (by simp)
  replace ha := ha.keep y1 (by simp) (by simp)
  replace hV := hV.keep y1 (by simp)
  generalize _root_.Go.Proofs.Ytlmcfclonncgbaa.give own w.heap.size G = o1 at *
  have HX := Lib.hid x1
  have c0 := kb.cell 0 rfl
  have c1 := kb.cell 1 rfl
  have c2 := kb.cell 2 rfl
  have c3 := kb.cell 3 rfl
  have c4 := kb.cell 4 rfl
  have c5 := kb.cell 5 rfl
  have c6 := kb.cell 6 rfl
  have c7 := kb.cell 7 rfl
  have c8 := kb.cell 8 rfl
  have hcall := yvariable_any L o1 idy idv idh y ph pa mb v most l V _ hb hV hh ⟨.mk 1 s n re im args, A, len, cap, at_, laid, x⟩ i15 i9 i8 i5 hr ha1 hVl
  dsimp only [Tm.int] at hcall
  rw [e] at hcall
  obtain ⟨r, hr'⟩ : ∃ r, varT most n at_ ⟨l, L, V⟩ = r := ⟨_, rfl⟩
  rw [hr'] at hcall ⊢
  have HC := Lib.hid hcall
  have HR := Lib.hid hr'
  clear hcall hr'
  clear y1 x1
  go_enter Try.func87, Try.ntmps87
  go_wp2_with (go_at_call 120; refine Calls.mono HC.out ?_; rintro e w2 ⟨own2, x2, (rfl : e = .returned (.tuple #[.int .u64 r.2.1, .int .i64 r.2.2])), hh2, hV2⟩)
  go_ret2
  refine ⟨own2, HX.out.trans (x2.mono (by simp)), rfl, hh2, ?_, hV2, v, [], Blk.keep hb x2 (by simp; omega), by simpa using hR.keep x2 (by simp; omega), by simp, rfl⟩
  rw [← HR.out, varT_L]
  exact ha.keep x2 (by simp; omega) (by simp; omega)
set_option maxRecDepth 100000 in
set_option maxHeartbeats 4000000 in
theorem ycell_cpx (own : Nat → Nat) (idh ida idm idy idv : Nat) (hids : Ids idh ida idm idy idv) (w : World) (y ph pa mb : Nat) (most : Int) (stk : List TD) (N : Nat) (st : SS) (h : Lay own idh ida idm idy idv w y ph pa mb most stk N st)
    (s : ByteArray) (n re im : Int) (args : List Tm) (A : Option Addr) (len cap : Nat) (at_ : Int) (laid : Bool) (x : Int) (hre : 0 ≤ re ∧ re < 18446744073709551616) (him : 0 ≤ im ∧ im < 18446744073709551616) :
    Calls Try.prog 87 #[.pointer (some ⟨y, 0, none⟩), TD.val ⟨.mk 4 s n re im args, A, len, cap, at_, laid, x⟩] w (Does own [idh, ida, idm, idy, idv] w fun own' e w' => e = .returned (retC (wordsT most 5 [re, im] st)) ∧ CellEnd own' idh ida idm idy idv w' y ph pa mb most stk N (wordsT most 5 [re, im] st).1 (· = [])) := by
  obtain ⟨l, L, V⟩ := st
  obtain ⟨i1, i2, i3, i4, i5, i6, i7, i8, i9, i10, i11, i12, i13, i14, i15⟩ := hids
  obtain ⟨hh, ha, hV, ⟨v, hb, hR⟩, hN, hNb, hVl⟩ := h
  dsimp only at hh ha hV hVl
  have e : TD.val ⟨.mk 4 s n re im args, A, len, cap, at_, laid, x⟩ = .agg #[.int .i64 4, .string s, .int .i64 n, .int .u64 re, .int .u64 im, .slice A len cap, .int .i64 at_, .bool laid, .int .u64 x] := rfl
  rw [e]
  obtain ⟨F0, hF0, hF⟩ := own_ne own w.heap.size
  obtain ⟨x1, kb, y1⟩ := (Ext.refl own [idh, ida, idm, idy, idv] w).box [.int .i64 4, .string s, .int .i64 n, .int .u64 re, .int .u64 im, .slice A len cap, .int .i64 at_, .bool laid, .int .u64 x] 127 (F0 + idh + ida + idm + idy + idv + 1)
  obtain ⟨G, hG⟩ : ∃ G, F0 + idh + ida + idm + idy + idv + 1 = G := ⟨_, rfl⟩
  rw [hG] at x1 kb y1
  replace hb := Blk.keep hb y1 (by simp)
  replace hR := hR.keep y1 (by simp)
  replace hh := hh.keep y1 (by simp)
  replace ha := ha.keep y1 (by simp) (by simp)
  replace hV := hV.keep y1 (by simp)
  generalize _root_.Go.Proofs.Ytlmcfclonncgbaa.give own w.heap.size G = o1 at *
  have HX := Lib.hid x1
  have c0 := kb.cell 0 rfl
  have c1 := kb.cell 1 rfl
  have c2 := kb.cell 2 rfl
  have c3 := kb.cell 3 rfl
  have c4 := kb.cell 4 rfl
  have c5 := kb.cell 5 rfl
  have c6 := kb.cell 6 rfl
  have c7 := kb.cell 7 rfl
  have c8 := kb.cell 8 rfl
  obtain ⟨z1, k1, z2⟩ := x1.box [.int .u64 re, .int .u64 im] 22 G
  simp only [World.size_alloc] at z1 k1 z2
  generalize _root_.Go.Proofs.Ytlmcfclonncgbaa.give o1 (w.heap.size + 1) G = o2 at *
  replace kb := kb.keep z2 (by simp)
  replace hb := Blk.keep hb z2 (by simp)
  replace hR := hR.keep z2 (by simp)
  replace hh := hh.keep z2 (by simp)
  replace ha := ha.keep z2 (by simp) (by simp)
  replace hV := hV.keep z2 (by simp)
  have HX2 := Lib.hid z1
  have hgo : o2 (w.heap.size + 1) ≠ idh := by rw [k1.2]; omega
  have hk1 := k1.lt
  have e0 := k1.cell 0 rfl
  have e1 := k1.cell 1 rfl
  have hcall := ywords_any L V _ idh idy y ph pa mb v most 5 l _ hb hh i8 (by decide) (by decide) _ 2 [re, im] rfl (by decide) hk1 hgo (two_words e0 e1)
  obtain ⟨r, hr'⟩ : ∃ r, wordsT most 5 [re, im] ⟨l, L, V⟩ = r := ⟨_, rfl⟩
  rw [hr'] at hcall ⊢
  have HC := Lib.hid hcall
  have HR := Lib.hid hr'
  clear hcall hr'
  clear z2 z1 hgo k1
  clear y1 x1
  go_enter Try.func87, Try.ntmps87
  go_wp2_with (go_at_call 122; refine Calls.mono HC.out ?_; rintro e w2 ⟨own2, x2, (rfl : e = .returned (.tuple #[.int .u64 r.2.1, .int .i64 r.2.2])), hh2⟩)
  go_ret2
  refine ⟨own2, HX2.out.trans (x2.mono (by simp)), rfl, hh2, ?_, ?_, v, [], Blk.keep hb x2 (by simp; omega), by simpa using hR.keep x2 (by simp; omega), by simp, rfl⟩
  · rw [← HR.out, wordsT_L]
    exact ha.keep x2 (by simp; omega) (by simp; omega)
  · rw [← HR.out, wordsT_V]
    exact hV.keep x2 (by simp; omega)
set_option maxRecDepth 100000 in
set_option maxHeartbeats 4000000 in
theorem ycell_small (own : Nat → Nat) (idh ida idm idy idv : Nat) (hids : Ids idh ida idm idy idv) (w : World) (y ph pa mb : Nat) (most : Int) (stk : List TD) (N : Nat) (st : SS) (h : Lay own idh ida idm idy idv w y ph pa mb most stk N st)
    (s : ByteArray) (n re im : Int) (args : List Tm) (A : Option Addr) (len cap : Nat) (at_ : Int) (laid : Bool) (x : Int) (hr : -9223372036854775808 ≤ n ∧ n ≤ 9223372036854775807) (hs : isSmall n) :
    Calls Try.prog 87 #[.pointer (some ⟨y, 0, none⟩), TD.val ⟨.mk 3 s n re im args, A, len, cap, at_, laid, x⟩] w (Does own [idh, ida, idm, idy, idv] w fun own' e w' => e = .returned (retC (((st, smallC n, 0) : SS × Int × Int))) ∧ CellEnd own' idh ida idm idy idv w' y ph pa mb most stk N (((st, smallC n, 0) : SS × Int × Int)).1 (· = [])) := by
  obtain ⟨l, L, V⟩ := st
  obtain ⟨i1, i2, i3, i4, i5, i6, i7, i8, i9, i10, i11, i12, i13, i14, i15⟩ := hids
  obtain ⟨hh, ha, hV, ⟨v, hb, hR⟩, hN, hNb, hVl⟩ := h
  dsimp only at hh ha hV hVl
  have e : TD.val ⟨.mk 3 s n re im args, A, len, cap, at_, laid, x⟩ = .agg #[.int .i64 3, .string s, .int .i64 n, .int .u64 re, .int .u64 im, .slice A len cap, .int .i64 at_, .bool laid, .int .u64 x] := rfl
  rw [e]
  obtain ⟨F0, hF0, hF⟩ := own_ne own w.heap.size
  obtain ⟨x1, kb, y1⟩ := (Ext.refl own [idh, ida, idm, idy, idv] w).box [.int .i64 3, .string s, .int .i64 n, .int .u64 re, .int .u64 im, .slice A len cap, .int .i64 at_, .bool laid, .int .u64 x] 127 (F0 + idh + ida + idm + idy + idv + 1)
  obtain ⟨G, hG⟩ : ∃ G, F0 + idh + ida + idm + idy + idv + 1 = G := ⟨_, rfl⟩
  rw [hG] at x1 kb y1
  replace hb := Blk.keep hb y1 (by simp)
  replace hR := hR.keep y1 (by simp)
  replace hh := hh.keep y1 (by simp)
  replace ha := ha.keep y1 (by simp) (by simp)
  replace hV := hV.keep y1 (by simp)
  generalize _root_.Go.Proofs.Ytlmcfclonncgbaa.give own w.heap.size G = o1 at *
  have HX := Lib.hid x1
  have c0 := kb.cell 0 rfl
  have c1 := kb.cell 1 rfl
  have c2 := kb.cell 2 rfl
  have c3 := kb.cell 3 rfl
  have c4 := kb.cell 4 rfl
  have c5 := kb.cell 5 rfl
  have c6 := kb.cell 6 rfl
  have c7 := kb.cell 7 rfl
  have c8 := kb.cell 8 rfl
  clear y1 x1
  go_enter Try.func87, Try.ntmps87
  go_wp2_with (go_at_call 121; refine (small_yes n _ hr hs).mono ?_; rintro e w2 ⟨rfl, rfl⟩)
  go_ret2
  exact ⟨o1, HX.out, rfl, hh, ha, hV, v, [], hb, by simpa using hR, by simp, rfl⟩
set_option maxRecDepth 100000 in
set_option maxHeartbeats 4000000 in
theorem ycell_big (own : Nat → Nat) (idh ida idm idy idv : Nat) (hids : Ids idh ida idm idy idv) (w : World) (y ph pa mb : Nat) (most : Int) (stk : List TD) (N : Nat) (st : SS) (h : Lay own idh ida idm idy idv w y ph pa mb most stk N st)
    (s : ByteArray) (n re im : Int) (args : List Tm) (A : Option Addr) (len cap : Nat) (at_ : Int) (laid : Bool) (x : Int) (hr : -9223372036854775808 ≤ n ∧ n ≤ 9223372036854775807) (hs : ¬ isSmall n) :
    Calls Try.prog 87 #[.pointer (some ⟨y, 0, none⟩), TD.val ⟨.mk 3 s n re im args, A, len, cap, at_, laid, x⟩] w (Does own [idh, ida, idm, idy, idv] w fun own' e w' => e = .returned (retC (wordsT most 4 [u64 n] st)) ∧ CellEnd own' idh ida idm idy idv w' y ph pa mb most stk N (wordsT most 4 [u64 n] st).1 (· = [])) := by
  obtain ⟨l, L, V⟩ := st
  obtain ⟨i1, i2, i3, i4, i5, i6, i7, i8, i9, i10, i11, i12, i13, i14, i15⟩ := hids
  obtain ⟨hh, ha, hV, ⟨v, hb, hR⟩, hN, hNb, hVl⟩ := h
  dsimp only at hh ha hV hVl
  have e : TD.val ⟨.mk 3 s n re im args, A, len, cap, at_, laid, x⟩ = .agg #[.int .i64 3, .string s, .int .i64 n, .int .u64 re, .int .u64 im, .slice A len cap, .int .i64 at_, .bool laid, .int .u64 x] := rfl
  rw [e]
  obtain ⟨F0, hF0, hF⟩ := own_ne own w.heap.size
  obtain ⟨x1, kb, y1⟩ := (Ext.refl own [idh, ida, idm, idy, idv] w).box [.int .i64 3, .string s, .int .i64 n, .int .u64 re, .int .u64 im, .slice A len cap, .int .i64 at_, .bool laid, .int .u64 x] 127 (F0 + idh + ida + idm + idy + idv + 1)
  obtain ⟨G, hG⟩ : ∃ G, F0 + idh + ida + idm + idy + idv + 1 = G := ⟨_, rfl⟩
  rw [hG] at x1 kb y1
  replace hb := Blk.keep hb y1 (by simp)
  replace hR := hR.keep y1 (by simp)
  replace hh := hh.keep y1 (by simp)
  replace ha := ha.keep y1 (by simp) (by simp)
  replace hV := hV.keep y1 (by simp)
  generalize _root_.Go.Proofs.Ytlmcfclonncgbaa.give own w.heap.size G = o1 at *
  have HX := Lib.hid x1
  have c0 := kb.cell 0 rfl
  have c1 := kb.cell 1 rfl
  have c2 := kb.cell 2 rfl
  have c3 := kb.cell 3 rfl
  have c4 := kb.cell 4 rfl
  have c5 := kb.cell 5 rfl
  have c6 := kb.cell 6 rfl
  have c7 := kb.cell 7 rfl
  have c8 := kb.cell 8 rfl
  obtain ⟨z1, k1, z2⟩ := x1.box [.int .u64 (u64 n)] 22 G
  simp only [World.size_alloc] at z1 k1 z2
  generalize _root_.Go.Proofs.Ytlmcfclonncgbaa.give o1 (w.heap.size + 1) G = o2 at *
  replace kb := kb.keep z2 (by simp)
  replace hb := Blk.keep hb z2 (by simp)
  replace hR := hR.keep z2 (by simp)
  replace hh := hh.keep z2 (by simp)
  replace ha := ha.keep z2 (by simp) (by simp)
  replace hV := hV.keep z2 (by simp)
  have HX2 := Lib.hid z1
  have hgo : o2 (w.heap.size + 1) ≠ idh := by rw [k1.2]; omega
  have hk1 := k1.lt
  have e0 := k1.cell 0 rfl
  have hcall := ywords_any L V _ idh idy y ph pa mb v most 4 l _ hb hh i8 (by decide) (by decide) _ 1 [u64 n] rfl (by decide) hk1 hgo (one_word e0)
  obtain ⟨r, hr'⟩ : ∃ r, wordsT most 4 [u64 n] ⟨l, L, V⟩ = r := ⟨_, rfl⟩
  rw [hr'] at hcall ⊢
  have HC := Lib.hid hcall
  have HR := Lib.hid hr'
  clear hcall hr'
  clear z2 z1 hgo k1
  clear y1 x1
  go_enter Try.func87, Try.ntmps87
  go_wp2_with (first | (go_at_call 121; refine (small_no n _ hr hs).mono ?_; rintro e w2 ⟨rfl, rfl⟩) | (go_at_call 122; refine Calls.mono HC.out ?_; rintro e w2 ⟨own2, x2, (rfl : e = .returned (.tuple #[.int .u64 r.2.1, .int .i64 r.2.2])), hh2⟩))
  go_ret2
  refine ⟨own2, HX2.out.trans (x2.mono (by simp)), rfl, hh2, ?_, ?_, v, [], Blk.keep hb x2 (by simp; omega), by simpa using hR.keep x2 (by simp; omega), by simp, rfl⟩
  · rw [← HR.out, wordsT_L]
    exact ha.keep x2 (by simp; omega) (by simp; omega)
  · rw [← HR.out, wordsT_V]
    exact hV.keep x2 (by simp; omega)
set_option maxRecDepth 100000 in
set_option maxHeartbeats 4000000 in
theorem ycell_atom (own : Nat → Nat) (idh ida idm idy idv : Nat) (hids : Ids idh ida idm idy idv) (w : World) (y ph pa mb : Nat) (most : Int) (stk : List TD) (N : Nat) (st : SS) (h : Lay own idh ida idm idy idv w y ph pa mb most stk N st)
    (s : ByteArray) (n re im : Int) (args : List Tm) (A : Option Addr) (len cap : Nat) (at_ : Int) (laid : Bool) (x : Int)  :
    Calls Try.prog 87 #[.pointer (some ⟨y, 0, none⟩), TD.val ⟨.mk 2 s n re im args, A, len, cap, at_, laid, x⟩] w (Does own [idh, ida, idm, idy, idv] w fun own' e w' => e = .returned (retC (((⟨st.l, numL st.L s, st.V⟩, numN st.L s * 8 + 2, numE st.L s) : SS × Int × Int))) ∧ CellEnd own' idh ida idm idy idv w' y ph pa mb most stk N (((⟨st.l, numL st.L s, st.V⟩, numN st.L s * 8 + 2, numE st.L s) : SS × Int × Int)).1 (· = [])) := by
  obtain ⟨l, L, V⟩ := st
  obtain ⟨i1, i2, i3, i4, i5, i6, i7, i8, i9, i10, i11, i12, i13, i14, i15⟩ := hids
  obtain ⟨hh, ha, hV, ⟨v, hb, hR⟩, hN, hNb, hVl⟩ := h
  dsimp only at hh ha hV hVl
  have e : TD.val ⟨.mk 2 s n re im args, A, len, cap, at_, laid, x⟩ = .agg #[.int .i64 2, .string s, .int .i64 n, .int .u64 re, .int .u64 im, .slice A len cap, .int .i64 at_, .bool laid, .int .u64 x] := rfl
  rw [e]
  obtain ⟨F0, hF0, hF⟩ := own_ne own w.heap.size
  obtain ⟨x1, kb, y1⟩ := (Ext.refl own [idh, ida, idm, idy, idv] w).box [.int .i64 2, .string s, .int .i64 n, .int .u64 re, .int .u64 im, .slice A len cap, .int .i64 at_, .bool laid, .int .u64 x] 127 (F0 + idh + ida + idm + idy + idv + 1)
  obtain ⟨G, hG⟩ : ∃ G, F0 + idh + ida + idm + idy + idv + 1 = G := ⟨_, rfl⟩
  rw [hG] at x1 kb y1
  replace hb := Blk.keep hb y1 (by simp)
  replace hR := hR.keep y1 (by simp)
  replace hh := hh.keep y1 (by simp)
  replace ha := ha.keep y1 (by simp) (by simp)
  replace hV := hV.keep y1 (by simp)
  generalize _root_.Go.Proofs.Ytlmcfclonncgbaa.give own w.heap.size G = o1 at *
  have HX := Lib.hid x1
  have c0 := kb.cell 0 rfl
  have c1 := kb.cell 1 rfl
  have c2 := kb.cell 2 rfl
  have c3 := kb.cell 3 rfl
  have c4 := kb.cell 4 rfl
  have c5 := kb.cell 5 rfl
  have c6 := kb.cell 6 rfl
  have c7 := kb.cell 7 rfl
  have c8 := kb.cell 8 rfl
  have cy1 := Blk.cell hb 1 rfl
  have hy1 := Blk.lt hb
  have hGi : G ∉ [ida, idm] := by simp; omega
  have hyi : idy ∉ [ida, idm] := by simp; omega
  have HN := Lib.hid (numN_range s ha.names.few)
  clear y1 x1
  go_enter Try.func87, Try.ntmps87
  go_wp2_with fail
  go_region_held3 (fun w' => w'.cell? ⟨y, 1, none⟩ = some (.pointer (some ⟨pa, 0, none⟩)) ∧ w'.cell? ⟨w.heap.size, 1, none⟩ = some (.string s)) (first | exact ⟨cy1, c1⟩ | exact ⟨cy1', c1'⟩ | go_keep)
    ((first | (go_at_call 46; refine (anumber_any o1 ida idm pa s L _ (by exact ha) i10).mono ?_; rintro e w2 ⟨own2, x2, rfl, ha2⟩; have z2 : Ext o1 own2 [ida, idm] (w.alloc (.cells #[.int .i64 2, .string s, .int .i64 n, .int .u64 re, .int .u64 im, .slice A len cap, .int .i64 at_, .bool laid, .int .u64 x] 127)) w2 := (by first | exact x2 | exact x2.ofDraw | exact x2.ofDrew); have cy1' := Blk.cell (Blk.keep hb z2 hyi) 1 rfl; have c1' := (kb.keep z2 hGi).cell 1 rfl)))
  have hb2 := Blk.keep hb z2 hyi
  have hR2 := hR.keep z2 hyi
  have hh2 := hh.keep z2 (by simp; omega)
  have hV2 := hV.keep z2 (by simp; omega)
  have HX2 := Lib.hid (HX.out.trans (z2.mono (by simp)))
  obtain ⟨hn0, hn1⟩ := HN.out
  go_wp2_with (go_at_call 118; refine (make_ok _ _ _ (by omega) (by omega) (by omega) (by omega)).mono ?_; rintro e w' ⟨rfl, rfl⟩)
  go_ret2
  exact ⟨own2, HX2.out, rfl, hh2, ha2, hV2, v, [], hb2, by simpa using hR2, by simp, rfl⟩
set_option maxRecDepth 100000 in
set_option maxHeartbeats 4000000 in
theorem ycell_comp (own : Nat → Nat) (idh ida idm idy idv : Nat) (hids : Ids idh ida idm idy idv) (w : World) (y ph pa mb : Nat) (most : Int) (stk : List TD) (N : Nat) (st : SS) (h : Lay own idh ida idm idy idv w y ph pa mb most stk N st)
    (s : ByteArray) (n re im : Int) (args : List Tm) (A : Option Addr) (len cap : Nat) (at_ : Int) (laid : Bool) (x : Int) (hT : TmS own w (.mk 5 s n re im args) (.slice A len cap)) (h1 : 1 ≤ args.length) (h20 : args.length ≤ 20) (hat0 : -1 ≤ at_) (ha1 : at_ < 1048576) :
    Calls Try.prog 87 #[.pointer (some ⟨y, 0, none⟩), TD.val ⟨.mk 5 s n re im args, A, len, cap, at_, laid, x⟩] w (Does own [idh, ida, idm, idy, idv] w fun own' e w' => e = .returned (retC ((((compT most s args.length st).1, compC (compT most s args.length st), (compT most s args.length st).2.2) : SS × Int × Int))) ∧ CellEnd own' idh ida idm idy idv w' y ph pa mb most stk N ((((compT most s args.length st).1, compC (compT most s args.length st), (compT most s args.length st).2.2) : SS × Int × Int)).1 (fun K => (compT most s args.length st).2.2 = 0 → (K.map TD.spec).reverse = todos (cls args) ((compT most s args.length st).2.1 + 1) ++ [.laid at_ (compC (compT most s args.length st))] ∧ ∀ z ∈ K, TdOk own' w' z ∧ (z.laid = false → z.t ∈ args))) := by
  obtain ⟨l, L, V⟩ := st
  obtain ⟨i1, i2, i3, i4, i5, i6, i7, i8, i9, i10, i11, i12, i13, i14, i15⟩ := hids
  obtain ⟨hh, ha, hV, ⟨v, hb, hR⟩, hN, hNb, hVl⟩ := h
  dsimp only at hh ha hV hVl
  have e : TD.val ⟨.mk 5 s n re im args, A, len, cap, at_, laid, x⟩ = .agg #[.int .i64 5, .string s, .int .i64 n, .int .u64 re, .int .u64 im, .slice A len cap, .int .i64 at_, .bool laid, .int .u64 x] := rfl
  rw [e]
  obtain ⟨F0, hF0, hF⟩ := own_ne own w.heap.size
  obtain ⟨x1, kb, y1⟩ := (Ext.refl own [idh, ida, idm, idy, idv] w).box [.int .i64 5, .string s, .int .i64 n, .int .u64 re, .int .u64 im, .slice A len cap, .int .i64 at_, .bool laid, .int .u64 x] 127 (F0 + idh + ida + idm + idy + idv + 1)
  obtain ⟨G, hG⟩ : ∃ G, F0 + idh + ida + idm + idy + idv + 1 = G := ⟨_, rfl⟩
  rw [hG] at x1 kb y1
  replace hb := Blk.keep hb y1 (by simp)
  replace hR := hR.keep y1 (by simp)
  replace hh := hh.keep y1 (by simp)
  replace ha := ha.keep y1 (by simp) (by simp)
  replace hV := hV.keep y1 (by simp)
  generalize _root_.Go.Proofs.Ytlmcfclonncgbaa.give own w.heap.size G = o1 at *
  have HX := Lib.hid x1
  have c0 := kb.cell 0 rfl
  have c1 := kb.cell 1 rfl
  have c2 := kb.cell 2 rfl
  have c3 := kb.cell 3 rfl
  have c4 := kb.cell 4 rfl
  have c5 := kb.cell 5 rfl
  have c6 := kb.cell 6 rfl
  have c7 := kb.cell 7 rfl
  have c8 := kb.cell 8 rfl
  have hcall := ycomp_any V o1 idh ida idm idy y ph pa mb v most l L stk N _ hb hR hN hNb hh ha ⟨.mk 5 s n re im args, A, len, cap, at_, laid, x⟩ s 5 n re im args rfl (TmS.keep y1 (by simp) _ _ hT) h1 h20 hat0 ha1 i10 (by simp; omega) (by simp; omega) (by simp; omega)
  dsimp only at hcall
  rw [e] at hcall
  obtain ⟨r, hr'⟩ : ∃ r, compT most s args.length ⟨l, L, V⟩ = r := ⟨_, rfl⟩
  rw [hr'] at hcall ⊢
  have HC := Lib.hid hcall
  have HR := Lib.hid hr'
  clear hcall hr'
  clear y1 x1
  go_enter Try.func87, Try.ntmps87
  go_wp2_with (go_at_call 123; refine Calls.mono HC.out ?_; rintro e w2 ⟨own2, x2, (rfl : e = .returned (.tuple #[.int .u64 (compC r), .int .i64 r.2.2])), hce⟩)
  go_ret2
  obtain ⟨q1, q2, v', K, q3, q4, q5, q6⟩ := hce
  refine ⟨own2, HX.out.trans (x2.mono (by simp)), rfl, q1, q2, ?_, v', K, q3, q4, q6, q5⟩
  show VP _ _ _ _ r.1.V
  rw [← HR.out, compT_V]
  exact hV.keep x2 (by simp; omega)

end Go.Proofs.Ytlmcfclonncgbaa
