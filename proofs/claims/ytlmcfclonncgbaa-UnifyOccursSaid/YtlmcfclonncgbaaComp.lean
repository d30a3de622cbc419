/- A compound laid (package store): its functor, its arguments' places, what is still to be laid. -/
import Derived.Test.YtlmcfclonncgbaaLayer2
import Derived.Test.YtlmcfclonncgbaaPk3
import Derived.Test.YtlmcfclonncgbaaPk4
import Derived.Deep.RegionHeld3
import Derived.Deep.RegionHeldLaw
namespace Go.Proofs.Ytlmcfclonncgbaa
open Go.RowKit
set_option linter.unusedVariables false
set_option linter.unusedSimpArgs false

open Go.Shelf
attribute [local go_sem] Oper.semAt_some
/-- A compound's cell; 0, where it has none. -/
def compC (r : SS × Nat × Int) : Int := if r.2.2 = 0 then (r.2.1 : Int) * 8 + 1 else 0
def TD.spec (z : TD) : Todo := if z.laid then .laid z.at_ z.x else .todo (cl z.t) z.at_
structure TdOk (own : Nat → Nat) (w : World) (z : TD) : Prop where
  tm : TmS own w z.t (.slice z.A z.l z.c)
  zero : z.laid = true → z.t.kind = 0
  at0 : -1 ≤ z.at_
  at1 : z.at_ < 1048576
  x0 : 0 ≤ z.x
  x1 : z.x < 18446744073709551616
theorem TdOk.keep {own own' : Nat → Nat} {ids : List Nat} {w w' : World} {z : TD} (h : TdOk own w z) (x : Ext own own' ids w w') (hi : 0 ∉ ids) : TdOk own' w' z :=
  ⟨TmS.keep x hi z.t _ h.tm, h.zero, h.at0, h.at1, h.x0, h.x1⟩
/-- What a compound leaves. -/
structure CompEnd (own : Nat → Nat) (idh ida idm idy : Nat) (w : World) (y ph pa mb : Nat) (most at_ : Int) (stk : List TD) (N : Nat) (args : List Tm) (r : SS × Nat × Int) : Prop where
  hp : HP own idh w ph most r.1.l
  tab : TabP own ida idm w pa r.1.L
  lay : ∃ v' K, LB own idy w y ph pa mb v' ∧ Row own idy w 127 9 v' (N + List.length K) (tdCells (stk ++ K)) ∧ (r.2.2 = 0 → (K.map TD.spec).reverse = todos (cls args) (r.2.1 + 1) ++ [.laid at_ (compC r)] ∧ ∀ z ∈ K, TdOk own w z ∧ (z.laid = false → z.t ∈ args)) ∧ K.length ≤ 21
theorem CompEnd.keep {own own' : Nat → Nat} {idh ida idm idy : Nat} {w w' : World} {y ph pa mb : Nat} {most at_ : Int} {stk : List TD} {N : Nat} {args : List Tm} {r : SS × Nat × Int} (h : CompEnd own idh ida idm idy w y ph pa mb most at_ stk N args r) (x : Ext own own' [] w w') : CompEnd own' idh ida idm idy w' y ph pa mb most at_ stk N args r := by
  obtain ⟨h1, h2, v', K, h3, h4, h5, h6⟩ := h
  exact ⟨h1.keep x (by simp), h2.keep x (by simp) (by simp), v', K, Blk.keep h3 x (by simp), h4.keep x (by simp), fun he => ⟨(h5 he).1, fun z hz => ⟨((h5 he).2 z hz).1.keep x (by simp), ((h5 he).2 z hz).2⟩⟩, h6⟩
def tdOf (at_ : Nat) (z : BX) : TD := ⟨z.t, z.A, z.l, z.c, (at_ : Int) + 1 + z.k, false, 0⟩
theorem bwUp_todos (n : Nat) {es : List (Tm × Option Addr × Nat × Nat)} {h : es.length ≤ 1000000} : ∀ k, k ≤ es.length → (((bwUp es h k).map (tdOf n)).map TD.spec).reverse = todos (cls ((es.drop (es.length - k)).map (·.1))) (n + 1 + (es.length - k))
  | 0, _ => by simp [bwUp, cls, todos]
  | k + 1, hk => by
    obtain ⟨e, he⟩ : ∃ e, es[es.length - 1 - k]? = some e := ⟨_, List.getElem?_eq_getElem (by omega)⟩
    have hb : es.length - 1 - k < 1000000 := by omega
    have ih := bwUp_todos n (es := es) (h := h) k (by omega)
    obtain ⟨hlt, hget⟩ := List.getElem?_eq_some_iff.1 he
    rw [bwUp_succ he hb, List.map_append, List.map_append, List.reverse_append, ih, show es.length - (k + 1) = es.length - 1 - k by omega, List.drop_eq_getElem_cons hlt, hget, show es.length - 1 - k + 1 = es.length - k by omega, List.map_cons]
    show _ = Todo.todo (cl e.1) _ :: todos _ _
    rw [show n + 1 + (es.length - 1 - k) + 1 = n + 1 + (es.length - k) by omega]
    simp [tdOf, TD.spec]
theorem bwUp_k {es : List (Tm × Option Addr × Nat × Nat)} {h : es.length ≤ 1000000} : ∀ k, k ≤ es.length → ∀ z ∈ bwUp es h k, z.k < es.length
  | 0, _, z, hz => by simp [bwUp] at hz
  | k + 1, hk, z, hz => by
    obtain ⟨e, he⟩ : ∃ e, es[es.length - 1 - k]? = some e := ⟨_, List.getElem?_eq_getElem (by omega)⟩
    rw [bwUp_succ he (by omega)] at hz
    rcases List.mem_append.1 hz with hz | hz
    · exact bwUp_k k (by omega) z hz
    · simp at hz
      subst hz
      show es.length - 1 - k < es.length
      omega
theorem tm0 (own : Nat → Nat) (w : World) : TmS own w (.mk 0 ByteArray.empty 0 0 0 []) (.slice none 0 0) := by
  refine ⟨?_, none, 0, 0, rfl, rfl, Nat.le_refl _, Nat.zero_le _, trivial⟩
  simp [Rng]
theorem lc0 (n : Nat) : (0 : Int) ≤ (n : Int) * 8 + 1 := by omega
theorem lc1 (n : Nat) (h : (n : Int) < 1048576) : (n : Int) * 8 + 1 < 18446744073709551616 := by omega
theorem atLo (n k : Nat) : (-1 : Int) ≤ (n : Int) + 1 + k := by omega
theorem atHi {n k q : Nat} (h : (n : Int) + 1 + q ≤ 1048576) (hk : k < q) : (n : Int) + 1 + k < 1048576 := by omega
theorem pushRs_len {most : Int} : ∀ (k : Nat) (l l' : List Int), (l', true) = pushRs most l k → l'.length = l.length + k
  | 0, l, l', h => by simp [pushRs] at h; rw [h]; simp
  | k + 1, l, l', h => by
    unfold pushRs at h
    split at h
    · have := pushRs_len k _ _ h
      simp at this
      omega
    · simp at h
theorem room6 {N k : Nat} (h : N ≤ 100000000) (h2 : k < 20) : (N + 1 + k + 1) * 96 ≤ 140737488355328 := by omega
theorem wrapB (n : Nat) (h : (n : Int) < 1048576) : IntKind.i64.wrap ((n : Int) + 1) = (n : Int) + 1 := by rw [IntKind.wrap_i64]; omega
theorem wrapA (n k : Nat) (h : (n : Int) < 1048576) (hk : (k : Int) < 1000000) : IntKind.i64.wrap ((n : Int) + 1 + k) = (n : Int) + 1 + k := by rw [IntKind.wrap_i64]; omega
theorem TD.one (z : TD) : ∀ u ∈ z.cells, u.oneCell' = true := by
  intro u hu
  simp only [TD.cells, List.mem_cons, List.not_mem_nil, or_false] at hu
  rcases hu with rfl | rfl | rfl | rfl | rfl | rfl | rfl | rfl | rfl <;> rfl
theorem compT_e1 {most : Int} {s : ByteArray} {k : Nat} {st : SS} (h : numE st.L s ≠ 0) : compT most s k st = (st, 0, numE st.L s) := by unfold compT; rw [if_pos h]
theorem compT_e2 {most : Int} {s : ByteArray} {k : Nat} {st : SS} (h : numE st.L s = 0) (hr : ¬ (st.l.length : Int) < most) : compT most s k st = ({ st with L := numL st.L s }, 0, 4) := by unfold compT; rw [if_neg (by simp [h]), if_neg hr]
theorem compT_e3 {most : Int} {s : ByteArray} {k : Nat} {st : SS} {l' : List Int} (h : numE st.L s = 0) (hr : (st.l.length : Int) < most) (hp : (l', false) = pushRs most (st.l ++ [funC (numN st.L s).toNat k]) k) : compT most s k st = (⟨l', numL st.L s, st.V⟩, st.l.length, 4) := by unfold compT; rw [if_neg (by simp [h]), if_pos hr, ← hp]; rfl
theorem compT_ok {most : Int} {s : ByteArray} {k : Nat} {st : SS} {l' : List Int} (h : numE st.L s = 0) (hr : (st.l.length : Int) < most) (hp : (l', true) = pushRs most (st.l ++ [funC (numN st.L s).toNat k]) k) : compT most s k st = (⟨l', numL st.L s, st.V⟩, st.l.length, 0) := by unfold compT; rw [if_neg (by simp [h]), if_pos hr, ← hp]; rfl

theorem numE_zero (L : List ByteArray) (s : ByteArray) (h : numE L s = 0) : memB (numL L s) s = true ∧ numN L s = idxL (numL L s) s := by
  unfold numE at h
  split at h
  · simp at h
  · rename_i h1
    split at h
    · rename_i h2
      have e : numL L s = L := by unfold numL; rw [if_neg h1, if_pos h2]
      rw [e]
      exact ⟨h2, by unfold numN; rw [if_neg h1, if_pos h2]⟩
    · rename_i h2
      split at h
      · simp at h
      · rename_i h3
        have h2' : memB L s = false := by simpa using h2
        have e : numL L s = L ++ [s] := by unfold numL; rw [if_neg h1, if_neg h2, if_neg h3]
        rw [e]
        refine ⟨by rw [memB_append, memB_one]; simp, ?_⟩
        unfold numN
        rw [if_neg h1, if_neg h2, if_neg h3, idxL_new L s h2']

set_option maxRecDepth 100000 in
set_option maxHeartbeats 8000000 in
theorem ycomp_any (V : List (Int × Int)) (own : Nat → Nat) (idh ida idm idy y ph pa mb : Nat) (v : Value) (most : Int) (l : List Int) (L : List ByteArray) (stk : List TD) (N : Nat) (w : World) (hb : LB own idy w y ph pa mb v) (hR : Row own idy w 127 9 v N (tdCells stk)) (hN : stk.length = N) (hNb : N ≤ 100000000) (hh : HP own idh w ph most l) (ha : TabP own ida idm w pa L)
    (td : TD) (s : ByteArray) (k n re im : Int) (args : List Tm) (htd : td.t = .mk k s n re im args) (hT : TmS own w td.t (.slice td.A td.l td.c)) (h1 : 1 ≤ args.length) (h20 : args.length ≤ 20) (hat0 : -1 ≤ td.at_) (hat1 : td.at_ < 1048576) (hid : ida ≠ idm) (hyi : idy ∉ [ida, idm]) (hhi : idh ∉ [ida, idm, idy]) (hi0 : 0 ∉ [idh, ida, idm, idy]) :
    Calls Try.prog 123 #[.pointer (some ⟨y, 0, none⟩), td.val] w (Does own [idh, ida, idm, idy] w fun own' e w' => e = .returned (.tuple #[.int .u64 (compC (compT most s args.length ⟨l, L, V⟩)), .int .i64 (compT most s args.length ⟨l, L, V⟩).2.2]) ∧ CompEnd own' idh ida idm idy w' y ph pa mb most td.at_ stk N args (compT most s args.length ⟨l, L, V⟩)) := by
  obtain ⟨t, A, len, cap, at_, laid, x⟩ := td
  dsimp only at htd hT hat0 hat1
  subst htd
  have e : TD.val ⟨.mk k s n re im args, A, len, cap, at_, laid, x⟩ = .agg #[.int .i64 k, .string s, .int .i64 n, .int .u64 re, .int .u64 im, .slice A len cap, .int .i64 at_, .bool laid, .int .u64 x] := rfl
  rw [e]
  obtain ⟨A', len', cap', he, hL⟩ := hT.args
  simp only [Value.slice.injEq] at he
  obtain ⟨rfl, rfl, rfl⟩ := he
  replace hL : TmL own w args A len cap := hL
  have hsz : s.size ≤ maxLen := hT.rng.2.2.2.2
  refine (callsIn_wide (n := 9)).1 (callsIn_of_wp_marks Try.func123 rfl trivial (wpIn_wide.2 ?_) rfl)
  simp only [Try.ntmps123, List.size_toArray, List.length_cons, List.length_nil, Nat.reduceAdd, Nat.reduceSub, Array.replicate_succ, Array.replicate_zero, List.push_toArray, List.append_toArray, List.nil_append, List.cons_append]
  go_wp2_with fail
  obtain ⟨F0, hF0, hF⟩ := own_ne own w.heap.size
  obtain ⟨H, hH⟩ : ∃ H, H = F0 + idh + ida + idm + idy + 1 := ⟨_, rfl⟩
  obtain ⟨x1, k1, y1⟩ := (Ext.refl own [] w).box [.pointer (some ⟨y, 0, none⟩)] 125 H
  obtain ⟨x2, k2, y2⟩ := x1.box [.int .i64 k, .string s, .int .i64 n, .int .u64 re, .int .u64 im, .slice A len cap, .int .i64 at_, .bool laid, .int .u64 x] 127 H
  obtain ⟨x3, k3, y3⟩ := x2.box [.int .i64 k, .string s, .int .i64 n, .int .u64 re, .int .u64 im, .slice A len cap] 25 H
  replace k1 := (k1.keep y2 (by simp)).keep y3 (by simp)
  replace k2 := k2.keep y3 (by simp)
  simp only [World.size_alloc] at x1 x2 x3 k1 k2 k3
  obtain ⟨W1, hW1⟩ : ∃ W1, ((w.alloc (.cells #[.pointer (some ⟨y, 0, none⟩)] 125)).alloc (.cells #[.int .i64 k, .string s, .int .i64 n, .int .u64 re, .int .u64 im, .slice A len cap, .int .i64 at_, .bool laid, .int .u64 x] 127)).alloc (.cells #[.int .i64 k, .string s, .int .i64 n, .int .u64 re, .int .u64 im, .slice A len cap] 25) = W1 := ⟨_, rfl⟩
  generalize _root_.Go.Proofs.Ytlmcfclonncgbaa.give (_root_.Go.Proofs.Ytlmcfclonncgbaa.give (_root_.Go.Proofs.Ytlmcfclonncgbaa.give own w.heap.size H) (w.heap.size + 1) H) (w.heap.size + 1 + 1) H = o1 at *
  rw [hW1] at x3 k1 k2 k3 ⊢
  have hsz1 : W1.heap.size = w.heap.size + 3 := by rw [← hW1]; simp
  replace hb := Blk.keep hb x3 (by simp)
  replace hR := hR.keep x3 (by simp)
  replace hh := hh.keep x3 (by simp)
  replace ha := ha.keep x3 (by simp) (by simp)
  replace hL := hL.keep x3 (by simp)
  clear hW1 x1 x2 y1 y2 y3 hT e
  have c2 := k1.cell 0 rfl
  have cy1 := Blk.cell hb 1 rfl
  have cs := k3.cell 1 rfl
  have hHi : H ∉ [ida, idm] := by simp; omega
  go_region_held3 (fun w' => w'.cell? ⟨w.heap.size, 0, none⟩ = some (.pointer (some ⟨y, 0, none⟩)) ∧ w'.cell? ⟨y, 1, none⟩ = some (.pointer (some ⟨pa, 0, none⟩)) ∧ w'.cell? ⟨w.heap.size + 1 + 1, 1, none⟩ = some (.string s)) (first | exact ⟨c2, cy1, cs⟩ | exact ⟨c2', cy1', cs'⟩ | go_keep)
    ((first | (go_at_call 46; refine (anumber_any o1 ida idm pa s L _ (by exact ha) hid).mono ?_; rintro e w2 ⟨own2, x2, rfl, ha2⟩; have z2 : Ext o1 own2 [ida, idm] W1 w2 := (by first | exact x2 | exact x2.ofDrew1 | exact x2.ofDrew); have hb2 := Blk.keep hb z2 hyi; have c2' := (k1.keep z2 hHi).cell 0 rfl; have cy1' := Blk.cell hb2 1 rfl; have cs' := (k3.keep z2 hHi).cell 1 rfl)))
  have hb3 := Blk.keep hb z2 hyi
  have hR3 := hR.keep z2 hyi
  have hh3 := hh.keep z2 (by simp at hhi ⊢; omega)
  have hL3 := hL.keep z2 (by simp at hi0 ⊢; omega)
  have m1 := k1.keep z2 hHi
  have m2 := k2.keep z2 hHi
  have m3 := k3.keep z2 hHi
  have x4 := (x3.mono (jds := [idh, ida, idm, idy]) (by simp)).trans (z2.mono (by simp))
  clear c2 cy1 cs c2' cy1' cs' hb hR hh ha hL k1 k2 k3 z2 x2 x3 hb2 hHi
  by_cases hE : numE L s = 0
  · have hE' : (numE L s == 0) = true := by simp [hE]
    obtain ⟨hM1, hM2⟩ := numE_zero L s hE
    have hM3 : idxL (numL L s) s < 4096 := by
      have h1 : idxL (numL L s) s < (numL L s).length := by simpa [memB] using hM1
      have h2 := ha2.names.few
      omega
    rw [hM2]
    have HM := Lib.hid hM2
    generalize idxL (numL L s) s = i at *
    have hi4 : i < 4096 := by omega
    have c61 := m3.cell 5 rfl
    have c20 := m1.cell 0 rfl
    have cy0 := Blk.cell hb3 0 rfl
    have hlen := hL3.1
    have hl20 : (len : Int) ≤ 20 := by omega
    by_cases hroom : (l.length : Int) < most
    · go_wp2_with (go_at_call 159; refine (functor_any i len _ hi4 (by omega) (by omega)).mono ?_; rintro e w' ⟨rfl, rfl⟩)
      refine (push_room own2 idh ph most (funC i len) l _ hh3 hroom).mono ?_
      rintro e w3 ⟨own3, x5, rfl, hh4⟩
      have n1 := m1.keep x5 (by simp; omega)
      have n2 := m2.keep x5 (by simp; omega)
      have n3 := m3.keep x5 (by simp; omega)
      have hb4 := Blk.keep hb3 x5 (by simp at hhi ⊢; omega)
      have hR4 := hR3.keep x5 (by simp at hhi ⊢; omega)
      have ha4 := ha2.keep x5 (by simp at hhi ⊢; omega) (by simp at hhi ⊢; omega)
      have hL4 := hL3.keep x5 (by simp at hi0 ⊢; omega)
      obtain ⟨x6, n4, y6⟩ := (x4.trans (x5.mono (by simp))).box [.int .i64 l.length] 3 H
      replace n1 := n1.keep y6 (by simp)
      replace n2 := n2.keep y6 (by simp)
      replace n3 := n3.keep y6 (by simp)
      replace hb4 := Blk.keep hb4 y6 (by simp)
      replace hR4 := hR4.keep y6 (by simp)
      replace hh4 := hh4.keep y6 (by simp)
      replace ha4 := ha4.keep y6 (by simp) (by simp)
      replace hL4 := hL4.keep y6 (by simp)
      have hl11 : (l.length : Int) + 1 ≤ 1048576 := by have := hh3.len; omega
      have hw3 := x5.size
      clear m1 m2 m3 hb3 hR3 hh3 hL3 ha2 x4 x5 y6 c61 c20 cy0
      have c61 := n3.cell 5 rfl
      have hlc := hh4.len
      rw [List.length_append, List.length_singleton] at hlc
      go_wp2_with fail
      obtain ⟨w4, hw4⟩ : ∃ w4, w3.alloc (.cells #[.int .i64 l.length] 3) = w4 := ⟨_, rfl⟩
      rw [hw4] at x6 n1 n2 n3 n4 hb4 hR4 hh4 ha4 hL4 c61 ⊢
      clear hw4
      generalize hB4 : w3.heap.size = B4 at *
      generalize _root_.Go.Proofs.Ytlmcfclonncgbaa.give own3 B4 H = o4 at *
      clear hB4 hw3
      have HX := Lib.hid x6
      have HLN := Lib.hid hlen
      have HHP := Lib.hid hh4
      clear x6 hlen c61 hh4
      go_loopw [56] (fun v wr => ∃ (q : Nat) (own' : Nat → Nat) (l' : List Int), v = .int .i64 q ∧ q ≤ len ∧ Ext o4 own' [idh] w4 wr ∧ HP own' idh wr ph most l' ∧ pushRs most l' (len - q) = pushRs most (l ++ [funC i len]) len) (fun v _ => len - (intOf v).toNat)
      case atStart => exact ⟨0, o4, _, rfl, by omega, Ext.refl _ _ _, HHP.out, rfl⟩
      case round =>
        obtain ⟨q, own', l', rfl, hq, x, hh', hinv⟩ := hrel
        have hne1 : H ∉ [idh] := by simp; omega
        have hne2 : idy ∉ [idh] := by simp at hhi ⊢; omega
        have c20 := (n1.keep x hne1).cell 0 rfl
        have cy0 := Blk.cell (Blk.keep hb4 x hne2) 0 rfl
        by_cases hlt : q < len
        · rw [show len - q = (len - (q + 1)) + 1 by omega] at hinv
          simp only [pushRs] at hinv
          by_cases hroom' : (l'.length : Int) < most
          · rw [if_pos hroom'] at hinv
            have HI := Lib.hid hinv
            clear hinv
            go_wp2_with fail
            refine (var_room own' idh ph most l' _ hh' hroom').mono ?_
            rintro e w5 ⟨own5, x5, rfl, hh5⟩
            go_wp2_with fail
            go_roundw
            case measure => simp [intOf]; omega
            exact ⟨q + 1, own5, _, by go_num, by omega, x.trans x5, hh5, HI.out⟩
          · rw [if_neg hroom'] at hinv
            have hfull : (l'.length : Int) = most := by have := hh'.len; omega
            have HI := Lib.hid hinv
            have HT := Lib.hid (compT_e3 (most := most) (k := args.length) (st := ⟨l, L, V⟩) (l' := l') hE hroom (by rw [HM.out, Int.toNat_natCast, HLN.out]; exact HI.out))
            have hfin : CompEnd own' idh ida idm idy wr y ph pa mb most at_ stk N args (⟨l', numL L s, V⟩, l.length, 4) :=
              ⟨hh', ha4.keep x (by simp at hhi ⊢; omega) (by simp at hhi ⊢; omega), v, [], Blk.keep hb4 x hne2, by simpa using hR4.keep x hne2, fun h => by simp at h, by simp⟩
            have HFI := Lib.hid (And.intro (HX.out.trans (x.mono (by simp))) hfin)
            clear hinv hroom' hfin
            go_wp2_with fail
            refine (var_full own' idh ph most l' _ hh' hfull).mono ?_
            rintro e w5 ⟨rfl, m, rfl⟩
            go_wp2_with fail
            refine ⟨_, results_tmp2 rfl _ _ _, own', HFI.out.1.drewN _, ?_, ?_⟩
            · rw [HT.out]; rfl
            · rw [HT.out]; exact HFI.out.2.keep ((Ext.refl own' [] wr).drewN m)
        · skip
          obtain rfl : q = len := by omega
          have HI : RowKit.Hid ((l', true) = pushRs most (l ++ [funC i q]) q) := Lib.hid (by rw [Nat.sub_self] at hinv; exact hinv)
          have HT := Lib.hid (compT_ok (most := most) (k := args.length) (st := ⟨l, L, V⟩) (l' := l') hE hroom (by rw [HM.out, Int.toNat_natCast, HLN.out]; exact HI.out))
          clear hinv
          have m1 := n1.keep x hne1
          have m2 := n2.keep x hne1
          have m3 := n3.keep x hne1
          have m4 := n4.keep x hne1
          have hb5 := Blk.keep hb4 x hne2
          have hR5 := hR4.keep x hne2
          have ha5 := ha4.keep x (by simp at hhi ⊢; omega) (by simp at hhi ⊢; omega)
          have hL5 := hL4.keep x (by simp at hi0 ⊢; omega)
          have HX5 := Lib.hid (HX.out.trans (x.mono (by simp)))
          have d4 := m4.cell 0 rfl
          have d26 := m2.cell 6 rfl
          have cy3 := Blk.cell hb5 3 rfl
          have fy3 := Blk.free hb5 3
          have d35 := m3.cell 5 rfl
          clear n1 n2 n3 n4 hb4 hR4 ha4 hL4 HX x hroom cy0 hlt
          have hll : (l.length : Int) < 1048576 := by omega
          go_wp2_with (go_at_call 118; refine (make_ok _ _ _ (by omega) (by omega) (by omega) (by omega)).mono ?_; rintro e w' ⟨rfl, rfl⟩)
          obtain ⟨A0, cap0, rfl, hc0⟩ := hR5.form
          have hHy : H ∉ [idy] := by simp; omega
          have hylt : y < w'.heap.size := Blk.lt hb5
          have hb5d := Blk.drew hb5
          have hne34 : 127 ≠ 130 := by decide
          have hW5 : (w'.alloc (.cells #[.int .i64 0, .string ByteArray.empty, .int .i64 0, .int .u64 0, .int .u64 0, .slice none 0 0, .int .i64 at_, .bool true, .int .u64 ((l.length : Int) * 8 + 1)] 127)).drew = w'.drew.alloc (.cells (TD.cells ⟨.mk 0 ByteArray.empty 0 0 0 [], none, 0, 0, at_, true, (l.length : Int) * 8 + 1⟩).toArray 127) := rfl
          have hl5 : (N + 1) * 96 ≤ 140737488355328 := by omega
          have HAPP := Lib.hid (fun (o : Oper) (a : Act) (K : Act → World → Prop) (Q : Exit → Act → World → Prop) (ho : o.op = .call { callee := .builtin .append, args := #[.tmp 80, .tmp 85], argTypes := #[128, 128] }) (hs : a.eval (.tmp 80) = .slice A0 N cap0) (hx : a.eval (.tmp 85) = .slice (some ⟨w'.heap.size, 0, none⟩) 1 1) => wp_append_row (Q := Q) (K := K) (.tmp 80) (.tmp 85) 128 ho 127 (.agg #[.int .i64 0, .string ByteArray.empty, .int .i64 0, .int .u64 0, .int .u64 0, .slice none 0 0, .int .i64 0, .bool false, .int .u64 0]) 9 96 Try.underlying128 info_todo rfl (by decide) (by decide) w'.drew (TD.cells ⟨.mk 0 ByteArray.empty 0 0 0 [], none, 0, 0, at_, true, (l.length : Int) * 8 + 1⟩) hW5 hs hx rfl (TD.one _) hR5.drew hl5)
          clear hW5
          have hstore : ∀ (o : Nat → Nat) (W : World), o y = idy → ∀ u, Ext o o [idy] W (W.setCell ⟨y, 3, none⟩ u) := fun o W h u => (Ext.refl o [idy] W).setCell _ _ (fun _ => by show o y ∈ _; rw [h]; simp)
          have HS9 : (w'.alloc (.cells (TD.cells ⟨.mk 0 ByteArray.empty 0 0 0 [], none, 0, 0, at_, true, (l.length : Int) * 8 + 1⟩).toArray 127)).drew.cell? ⟨w.heap.size, 0, none⟩ = some (.pointer (some ⟨y, 0, none⟩)) ∧ (w'.alloc (.cells (TD.cells ⟨.mk 0 ByteArray.empty 0 0 0 [], none, 0, 0, at_, true, (l.length : Int) * 8 + 1⟩).toArray 127)).drew.cell? ⟨w.heap.size + 1, 6, none⟩ = some (.int .i64 at_) ∧ (w'.alloc (.cells (TD.cells ⟨.mk 0 ByteArray.empty 0 0 0 [], none, 0, 0, at_, true, (l.length : Int) * 8 + 1⟩).toArray 127)).drew.cell? ⟨y, 3, none⟩ = some (.slice A0 N cap0) := ⟨(m1.alloc _).cell 0 rfl, (m2.alloc _).cell 6 rfl, Blk.cell (Blk.alloc hb5 _) 3 rfl⟩
          refine wp_calm ?_
          have HS : w'.drew.cell? ⟨w.heap.size, 0, none⟩ = some (.pointer (some ⟨y, 0, none⟩)) ∧ w'.drew.cell? ⟨w.heap.size + 1, 6, none⟩ = some (.int .i64 at_) ∧ w'.drew.cell? ⟨y, 3, none⟩ = some (.slice A0 N cap0) := ⟨c20, d26, cy3⟩
          refine wp_region_till 11 (fun w' => w'.cell? ⟨w.heap.size, 0, none⟩ = some (.pointer (some ⟨y, 0, none⟩)) ∧ w'.cell? ⟨w.heap.size + 1, 6, none⟩ = some (.int .i64 at_) ∧ w'.cell? ⟨y, 3, none⟩ = some (.slice A0 N cap0)) (by kernel_rfl) ?_
          refine wpTill_take 0 (v := ?_) rfl (by kernel_rfl) (by kernel_rfl) (by kernel_rfl) (by kernel_rfl) (by kernel_rfl) (fun _ _ _ h => h) rfl HS ?_ ?_
          rotate_left 1
          · intro w hSw; go_split_ands; go_simp; try with_reducible rfl
          try simp only [Act.put, List.setIfInBounds_toArray, List.set_cons_zero, List.set_cons_succ, List.getElem_toArray, List.getElem_cons_succ, List.getElem_cons_zero]
          refine wpTill_take 1 (v := ?_) rfl (by kernel_rfl) (by kernel_rfl) (by kernel_rfl) (by kernel_rfl) (by kernel_rfl) (fun _ _ _ h => h) rfl HS ?_ ?_
          rotate_left 1
          · intro w hSw; go_split_ands; go_simp; try with_reducible rfl
          try simp only [Act.put, List.setIfInBounds_toArray, List.set_cons_zero, List.set_cons_succ, List.getElem_toArray, List.getElem_cons_succ, List.getElem_cons_zero]
          refine wpTill_take 2 (v := ?_) rfl (by kernel_rfl) (by kernel_rfl) (by kernel_rfl) (by kernel_rfl) (by kernel_rfl) (fun _ _ _ h => h) rfl HS ?_ ?_
          rotate_left 1
          · intro w hSw; go_split_ands; go_simp; try with_reducible rfl
          try simp only [Act.put, List.setIfInBounds_toArray, List.set_cons_zero, List.set_cons_succ, List.getElem_toArray, List.getElem_cons_succ, List.getElem_cons_zero]
          refine wpTill_take 3 (v := ?_) rfl (by kernel_rfl) (by kernel_rfl) (by kernel_rfl) (by kernel_rfl) (by kernel_rfl) (fun _ _ _ h => h) rfl HS ?_ ?_
          rotate_left 1
          · intro w hSw; go_split_ands; go_simp; try with_reducible rfl
          try simp only [Act.put, List.setIfInBounds_toArray, List.set_cons_zero, List.set_cons_succ, List.getElem_toArray, List.getElem_cons_succ, List.getElem_cons_zero]
          refine wpTill_take 4 (v := ?_) rfl (by kernel_rfl) (by kernel_rfl) (by kernel_rfl) (by kernel_rfl) (by kernel_rfl) (fun _ _ _ h => h) rfl HS ?_ ?_
          rotate_left 1
          · intro w hSw; go_split_ands; go_simp; try with_reducible rfl
          try simp only [Act.put, List.setIfInBounds_toArray, List.set_cons_zero, List.set_cons_succ, List.getElem_toArray, List.getElem_cons_succ, List.getElem_cons_zero]
          refine wpTill_take 5 (v := ?_) rfl (by kernel_rfl) (by kernel_rfl) (by kernel_rfl) (by kernel_rfl) (by kernel_rfl) (fun _ _ _ h => h) rfl HS ?_ ?_
          rotate_left 1
          · intro w hSw; go_split_ands; go_simp; try with_reducible rfl
          try simp only [Act.put, List.setIfInBounds_toArray, List.set_cons_zero, List.set_cons_succ, List.getElem_toArray, List.getElem_cons_succ, List.getElem_cons_zero]
          refine wpTill_take 6 (v := ?_) rfl (by kernel_rfl) (by kernel_rfl) (by kernel_rfl) (by kernel_rfl) (by kernel_rfl) (fun _ _ _ h => h) rfl HS ?_ ?_
          rotate_left 1
          · intro w hSw; go_split_ands; go_simp; try with_reducible rfl
          try simp only [Act.put, List.setIfInBounds_toArray, List.set_cons_zero, List.set_cons_succ, List.getElem_toArray, List.getElem_cons_succ, List.getElem_cons_zero]
          refine wpTill_take 7 (v := ?_) rfl (by kernel_rfl) (by kernel_rfl) (by kernel_rfl) (by kernel_rfl) (by kernel_rfl) (fun _ _ _ h => h) rfl HS ?_ ?_
          rotate_left 1
          · intro w hSw; go_split_ands; go_simp; try with_reducible rfl
          try simp only [Act.put, List.setIfInBounds_toArray, List.set_cons_zero, List.set_cons_succ, List.getElem_toArray, List.getElem_cons_succ, List.getElem_cons_zero]
          refine wpTill_take 8 (v := ?_) rfl (by kernel_rfl) (by kernel_rfl) (by kernel_rfl) (by kernel_rfl) (by kernel_rfl) (fun _ _ _ h => h) rfl HS ?_ ?_
          rotate_left 1
          · intro w hSw; go_split_ands; go_simp; try with_reducible rfl
          try simp only [Act.put, List.setIfInBounds_toArray, List.set_cons_zero, List.set_cons_succ, List.getElem_toArray, List.getElem_cons_succ, List.getElem_cons_zero]
          refine wpTill_one 9 rfl (by kernel_rfl) rfl (fun K hK => ?_)
          go_simp
          refine hK.out _ _ (fun _ => HS9) ?_
          clear hK K
          try simp only [Act.put, List.setIfInBounds_toArray, List.set_cons_zero, List.set_cons_succ, List.getElem_toArray, List.getElem_cons_succ, List.getElem_cons_zero]
          refine wpTill_one 10 rfl (by kernel_rfl) rfl (fun K hK => ?_)
          refine HAPP.out _ _ _ _ rfl rfl rfl ?_; intro g cp2 w5 own5 kr5 xe5 ko5 kb5; have z5 := xe5.ofDraw; have hb6 := kb5 _ _ _ hb5d hne34; have fy6 := Blk.free hb6 3; have cy6 := Blk.cell hb6 3 rfl; have s6 := hstore own5 w5 hb6.2; have p1 := m1.keep z5 hHy; have p2 := m2.keep z5 hHy; have c20p := p1.cell 0 rfl; have d26p := p2.cell 6 rfl
          refine hK.out _ _ (fun _ => ⟨c20p, d26p, cy6⟩) ?_
          clear hK K
          try simp only [Act.put, List.setIfInBounds_toArray, List.set_cons_zero, List.set_cons_succ, List.getElem_toArray, List.getElem_cons_succ, List.getElem_cons_zero]
          refine wpTill_pure 11 (v := ?_) rfl (by kernel_rfl) (by kernel_rfl) rfl ?_ ?_
          rotate_left 1
          · go_simp; try with_reducible rfl
          try simp only [Act.put, List.setIfInBounds_toArray, List.set_cons_zero, List.set_cons_succ, List.getElem_toArray, List.getElem_cons_succ, List.getElem_cons_zero]
          refine wpTill_pure 12 (v := ?_) rfl (by kernel_rfl) (by kernel_rfl) rfl ?_ ?_
          rotate_left 1
          · go_simp; try with_reducible rfl
          try simp only [Act.put, List.setIfInBounds_toArray, List.set_cons_zero, List.set_cons_succ, List.getElem_toArray, List.getElem_cons_succ, List.getElem_cons_zero]
          refine wpTill_one 13 rfl (by kernel_rfl) rfl (fun K hK => ?_)
          go_simp
          refine hK.out _ _ (Till.gone (by kernel_rfl)) ?_
          clear hK K
          try simp only [Act.put, List.setIfInBounds_toArray, List.set_cons_zero, List.set_cons_succ, List.getElem_toArray, List.getElem_cons_succ, List.getElem_cons_zero]
          refine wpTill_done (by kernel_rfl) ?_ _

          have y6 := s6 (.slice (some ⟨g, 0, none⟩) (N + 1) cp2)
          have q1 := p1.keep y6 hHy
          have q2 := p2.keep y6 hHy
          have q3 := (m3.keep z5 hHy).keep y6 hHy
          have q4 := (m4.keep z5 hHy).keep y6 hHy
          have hb7 := Blk.set hb6 3 (.slice (some ⟨g, 0, none⟩) (N + 1) cp2)
          have hR7 := kr5.far (p := ⟨y, 3, none⟩) (kr5.ne_blk hb6 hne34) (.slice (some ⟨g, 0, none⟩) (N + 1) cp2)
          have hh7 := (hh'.keep z5 (by simp at hhi ⊢; omega)).keep y6 (by simp at hhi ⊢; omega)
          have ha7 := (ha5.keep z5 (by simp at hyi ⊢; omega) (by simp at hyi ⊢; omega)).keep y6 (by simp at hyi ⊢; omega) (by simp at hyi ⊢; omega)
          have hL7 := (hL5.keep z5 (by simp at hi0 ⊢; omega)).keep y6 (by simp at hi0 ⊢; omega)
          have hX7 := (HX5.out.trans (z5.mono (by simp))).trans (y6.mono (by simp))
          obtain ⟨W7, hW7⟩ : ∃ W7, w5.setCell ⟨y, 3, none⟩ (.slice (some ⟨g, 0, none⟩) (N + 1) cp2) = W7 := ⟨_, rfl⟩
          rw [hW7] at q1 q2 q3 q4 hb7 hR7 hh7 ha7 hL7 hX7 ⊢
          clear hW7 y6 s6 p1 p2 c20p d26p HS HS9 m1 m2 m3 m4 hb5 hb5d hb6 hR5 kr5 hh' ha5 hL5 HX5 z5 xe5 ko5 kb5 fy6 cy6 HAPP cy3 fy3 d26 d4 d35 c20 hylt
          have d35 := q3.cell 5 rfl
          go_wp2_with (go_at_call 160; refine (bw_any _ _ _ _).mono ?_; rintro e w' ⟨rfl, rfl⟩)
          have hlen : args.length = q := HLN.out
          obtain ⟨es, e1, e2, e3, b, o, rfl, hbl, hob, hel⟩ := hL7.els (by omega)
          have hle : es.length ≤ 1000000 := by omega
          obtain ⟨x8, k8, y8⟩ := hX7.box [.slice (some ⟨b, o, none⟩) q cap] 23 H
          have w1 := q1.keep y8 (by simp)
          have w4 := q4.keep y8 (by simp)
          have hb8 := Blk.keep hb7 y8 (by simp)
          have hR8 := hR7.keep y8 (by simp)
          have hh8 := hh7.keep y8 (by simp)
          have ha8 := ha7.keep y8 (by simp) (by simp)
          have hob8 := (y8.own b hbl).trans hob
          have hWs := y8.size
          have hE8 : Els (W7.alloc (.cells #[.slice (some ⟨b, o, none⟩) q cap] 23)) b o es := by
            intro j e he
            obtain ⟨c0, c1, c2, c3, c4, c5⟩ := hel j e he
            have z : ∀ t, (W7.alloc (.cells #[.slice (some ⟨b, o, none⟩) q cap] 23)).cell? ⟨b, t, none⟩ = W7.cell? ⟨b, t, none⟩ := fun t => y8.cell (p := ⟨b, t, none⟩) hbl (by simp)
            exact ⟨(z _).trans c0, (z _).trans c1, (z _).trans c2, (z _).trans c3, (z _).trans c4, (z _).trans c5⟩
          obtain ⟨W8, hW8⟩ : ∃ W8, W7.alloc (.cells #[.slice (some ⟨b, o, none⟩) q cap] 23) = W8 := ⟨_, rfl⟩
          have hsz8 : W8.heap.size = W7.heap.size + 1 := by rw [← hW8]; simp
          rw [hW8] at y8 x8 k8 w1 w4 hb8 hR8 hh8 ha8 hE8 ⊢
          have hcn := k8.cell 0 rfl
          clear hW8 hX7 q1 q2 q3 q4 hb7 hR7 hh7 ha7 hL7 hel d35 hWs
          generalize hgv : _root_.Go.Proofs.Ytlmcfclonncgbaa.give own5 W7.heap.size H = o8 at *
          have hneT : 127 ≠ 25 := by decide
          have hhy : idh ∉ [idy] := by simp at hhi ⊢; omega
          have hay : ida ∉ [idy] := by simp at hyi ⊢; omega
          have hmy : idm ∉ [idy] := by simp at hyi ⊢; omega
          have hy0 : 0 ∉ [idy] := by simp at hi0 ⊢; omega
          have hAt : (l.length : Int) + 1 + q ≤ 1048576 := by have h1 := pushRs_len _ _ _ HI.out; have h2 := hh8.len; rw [List.length_append, List.length_singleton] at h1; omega
          have hq20 : q ≤ 20 := by omega
          have hyH : H ∉ [idy] := by simp; omega
          have hyb : o8 b ∉ [idy] := by rw [hob8]; simp at hi0 ⊢; omega
          refine wpIn_wide.1 (wpIn_rangeFunc_ownH (F := Fence.wide) (n := 9) rfl (by omega) (gf := 165) (lb := #[.pointer (some ⟨W7.heap.size, 0, none⟩)]) rfl trivial (enters_of Try.func165 (by kernel_rfl) rfl)
            (bw_stops Fence.wide 8 trivial rfl (by omega) W7.heap.size b o q cap es e1 hle (fun k => k = W7.heap.size ∨ k = b) (Or.inl rfl) (Or.inr rfl) W8 (by omega) (by omega) hcn hE8)
            (fun h k => h.trans k) (KpS.book (by rintro k (rfl | rfl) <;> omega)) (Below.refl _ _) (fun _ => rfl)
            (fun pre W => ∃ own' v', Ext o8 own' [idy] W8 W ∧ LB own' idy W y ph pa mb v' ∧ Row own' idy W 127 9 v' (N + 1 + pre.length) (tdCells (stk ++ ⟨.mk 0 ByteArray.empty 0 0 0 [], none, 0, 0, at_, true, (l.length : Int) * 8 + 1⟩ :: pre.map (tdOf l.length))))
            (fun _ _ _ => False) ?hI (fun _ _ _ _ _ hs _ _ => hs) ⟨o8, _, Ext.refl _ _ _, hb8, by simpa [tdCells_append, tdCells] using hR8⟩
            (fun z a' W => ∃ Bx, W8.heap.size ≤ Bx ∧ W.heap[Bx]? = some (.cells #[.int .i64 z.t.kind, .string z.t.name, .int .i64 z.t.int, .int .u64 z.t.re, .int .u64 z.t.im, .slice z.A z.l z.c] 25 (0, 0)) ∧ a' = { tmps := #[.pointer (some ⟨y, 0, none⟩), .agg #[.int .i64 k, .string s, .int .i64 n, .int .u64 re, .int .u64 im, .slice (some ⟨b, o, none⟩) q cap, .int .i64 at_, .bool laid, .int .u64 x], .pointer (some ⟨w.heap.size, 0, none⟩), .pointer (some ⟨w.heap.size + 1, 0, none⟩), u4, u5, .pointer (some ⟨w.heap.size + 1 + 1, 0, none⟩), .int .i64 (i : Int), .int .i64 (0), .int .u64 (funC i q), .bool true, .pointer (some ⟨B4, 0, none⟩), u12, u13, .int .u64 ((l.length : Int) * 8 + 1), .bool true, .int .i64 (z.k : Int), .pointer (some ⟨Bx, 0, none⟩), .pointer (some ⟨w.heap.size + 1, 0, none⟩), .agg #[.int .i64 k, .string s, .int .i64 n, .int .u64 re, .int .u64 im, .slice (some ⟨b, o, none⟩) q cap], .tuple #[.int .i64 (i : Int), .int .i64 (0)], .pointer (some ⟨y, 0, none⟩), .pointer (some ⟨y, 0, none⟩), .pointer (some ⟨y, 1, none⟩), .pointer (some ⟨pa, 0, none⟩), .pointer (some ⟨w.heap.size + 1 + 1, 1, none⟩), .string s, .tuple #[.int .i64 (i : Int), .int .i64 (0)], .int .i64 (i : Int), .int .i64 (0), .int .i64 (0), .bool false, undef, .tuple #[.int .u64 (funC i q), .bool true], .int .i64 (i : Int), .pointer (some ⟨w.heap.size + 1 + 1, 5, none⟩), .slice (some ⟨b, o, none⟩) q cap, .int .i64 (q : Int), .tuple #[.int .u64 (funC i q), .bool true], .int .u64 (funC i q), .bool true, .tuple #[.int .i64 (l.length : Int), .int .i64 (0)], .pointer (some ⟨y, 0, none⟩), .pointer (some ⟨y, 0, none⟩), .pointer (some ⟨y, 0, none⟩), .pointer (some ⟨ph, 0, none⟩), .int .u64 (funC i q), .tuple #[.int .i64 (l.length : Int), .int .i64 (0)], .int .i64 (l.length : Int), .int .i64 (0), .int .i64 (0), .bool false, undef, .pointer (some ⟨w.heap.size + 1 + 1, 5, none⟩), .slice (some ⟨b, o, none⟩) q cap, .int .i64 (q : Int), .int .i64 (q : Int), .bool false, u58, u59, u60, u61, u62, u63, u64, u65, u66, u67, u68, u69, .tuple #[.int .u64 ((l.length : Int) * 8 + 1), .bool true], .int .i64 (l.length : Int), .int .u64 (l.length : Int), .tuple #[.int .u64 ((l.length : Int) * 8 + 1), .bool true], .int .u64 ((l.length : Int) * 8 + 1), .bool true, .pointer (some ⟨y, 0, none⟩), .pointer (some ⟨y, 0, none⟩), .pointer (some ⟨y, 0, none⟩), .pointer (some ⟨y, 3, none⟩), .slice A0 N cap0, .pointer (some ⟨w.heap.size + 1, 6, none⟩), .int .i64 (at_), .int .u64 ((l.length : Int) * 8 + 1), .agg #[.int .i64 0, .string ByteArray.empty, .int .i64 0, .int .u64 0, .int .u64 0, .slice none 0 0, .int .i64 at_, .bool true, .int .u64 ((l.length : Int) * 8 + 1)], .slice (some ⟨w'.heap.size, 0, none⟩) 1 1, .slice (some ⟨g, 0, none⟩) (N + 1) cp2, .pointer (some ⟨y, 0, none⟩), .pointer (some ⟨y, 3, none⟩), .pointer (some ⟨w.heap.size + 1 + 1, 5, none⟩), .slice (some ⟨b, o, none⟩) q cap, .func (.func 165) #[] #[.pointer (some ⟨W7.heap.size, 0, none⟩)], .int .i64 (z.k : Int), .agg #[.int .i64 z.t.kind, .string z.t.name, .int .i64 z.t.int, .int .u64 z.t.re, .int .u64 z.t.im, .slice z.A z.l z.c], undef, undef, undef, undef, undef, undef, undef, undef, undef, undef, undef, undef, undef, undef, undef, undef], defers := [] })
            ?hAx ?assign ?body ?done ?stop)
          case hI =>
            rintro pre W W' row ⟨own', v', xx, kb, kr⟩ hg hr
            exact ⟨own', v', xx.grown hg (fun k hk hlt => by have := (hr k hk).1; omega), Blk.grownNC kb hg hr, kr.grownNC hg hr⟩
          case hAx =>
            rintro z a' u W W' row ⟨Bx, h1, h2, h3⟩ hg hr
            refine ⟨Bx, h1, (hg.block Bx (Array.getElem?_eq_some_iff.1 h2).1 (fun e => ?_)).trans h2, h3⟩
            obtain ⟨_, ob, ho, hc⟩ := hr Bx e.symm
            rw [h2] at ho
            cases ho
            cases hc
          case assign =>
            rintro rl pre z W K ⟨own', v', xe, kb, kr⟩ hK
            unfold encs
            gi_wp2
            have hlt := xe.size
            exact hK _ _ ((KeepsOthers.alloc _ _).from _) (fun k hk => Below.heap_alloc _ _ _ (by rcases hk with rfl | rfl <;> omega)) ⟨own', v', xe.alloc _, Blk.alloc kb _, kr.alloc _⟩ ⟨W.heap.size, hlt, heap_alloc_new _ _, rfl⟩
          case body =>
            rintro rl pre z a' W hl hrec ⟨own', v', xe, kb, kr⟩ ⟨Bx, hBx, hxc, rfl⟩ hpre
            obtain ⟨A1, cp1, rfl, hc1⟩ := kr.form
            have m1 := w1.keep xe hyH
            have m4 := w4.keep xe hyH
            have hx : Blk own' (own' Bx) W Bx [.int .i64 z.t.kind, .string z.t.name, .int .i64 z.t.int, .int .u64 z.t.re, .int .u64 z.t.im, .slice z.A z.l z.c] 25 := ⟨hxc, rfl⟩
            have HS : W.drew.cell? ⟨w.heap.size, 0, none⟩ = some (.pointer (some ⟨y, 0, none⟩)) ∧ W.drew.cell? ⟨y, 3, none⟩ = some (.slice A1 (N + 1 + pre.length) cp1) ∧ W.drew.cell? ⟨B4, 0, none⟩ = some (.int .i64 l.length) ∧ W.drew.cell? ⟨Bx, 0, none⟩ = some (.int .i64 z.t.kind) ∧ W.drew.cell? ⟨Bx, 1, none⟩ = some (.string z.t.name) ∧ W.drew.cell? ⟨Bx, 2, none⟩ = some (.int .i64 z.t.int) ∧ W.drew.cell? ⟨Bx, 3, none⟩ = some (.int .u64 z.t.re) ∧ W.drew.cell? ⟨Bx, 4, none⟩ = some (.int .u64 z.t.im) ∧ W.drew.cell? ⟨Bx, 5, none⟩ = some (.slice z.A z.l z.c) := ⟨m1.cell 0 rfl, Blk.cell kb 3 rfl, m4.cell 0 rfl, hx.cell 0 rfl, hx.cell 1 rfl, hx.cell 2 rfl, hx.cell 3 rfl, hx.cell 4 rfl, hx.cell 5 rfl⟩
            have HS11 : (W.alloc (.cells (TD.cells (tdOf l.length z)).toArray 127)).drew.cell? ⟨w.heap.size, 0, none⟩ = some (.pointer (some ⟨y, 0, none⟩)) ∧ (W.alloc (.cells (TD.cells (tdOf l.length z)).toArray 127)).drew.cell? ⟨y, 3, none⟩ = some (.slice A1 (N + 1 + pre.length) cp1) ∧ (W.alloc (.cells (TD.cells (tdOf l.length z)).toArray 127)).drew.cell? ⟨B4, 0, none⟩ = some (.int .i64 l.length) ∧ (W.alloc (.cells (TD.cells (tdOf l.length z)).toArray 127)).drew.cell? ⟨Bx, 0, none⟩ = some (.int .i64 z.t.kind) ∧ (W.alloc (.cells (TD.cells (tdOf l.length z)).toArray 127)).drew.cell? ⟨Bx, 1, none⟩ = some (.string z.t.name) ∧ (W.alloc (.cells (TD.cells (tdOf l.length z)).toArray 127)).drew.cell? ⟨Bx, 2, none⟩ = some (.int .i64 z.t.int) ∧ (W.alloc (.cells (TD.cells (tdOf l.length z)).toArray 127)).drew.cell? ⟨Bx, 3, none⟩ = some (.int .u64 z.t.re) ∧ (W.alloc (.cells (TD.cells (tdOf l.length z)).toArray 127)).drew.cell? ⟨Bx, 4, none⟩ = some (.int .u64 z.t.im) ∧ (W.alloc (.cells (TD.cells (tdOf l.length z)).toArray 127)).drew.cell? ⟨Bx, 5, none⟩ = some (.slice z.A z.l z.c) := ⟨(m1.alloc _).cell 0 rfl, Blk.cell (Blk.alloc kb _) 3 rfl, (m4.alloc _).cell 0 rfl, (hx.alloc _).cell 0 rfl, (hx.alloc _).cell 1 rfl, (hx.alloc _).cell 2 rfl, (hx.alloc _).cell 3 rfl, (hx.alloc _).cell 4 rfl, (hx.alloc _).cell 5 rfl⟩
            have hpx : ∀ (o5 : Nat → Nat) (w5 : World), Ext own' o5 [idy] W w5 → (∀ b cs t', Blk own' idy W.drew b cs t' → 127 ≠ t' → Blk o5 idy w5 b cs t') → Blk o5 (o5 Bx) w5 Bx [.int .i64 z.t.kind, .string z.t.name, .int .i64 z.t.int, .int .u64 z.t.re, .int .u64 z.t.im, .slice z.A z.l z.c] 25 := by
              intro o5 w5 x5 k5
              by_cases h : own' Bx = idy
              · exact ⟨(k5 Bx _ _ (h ▸ hx.drew) hneT).1, rfl⟩
              · exact ⟨(hx.keep x5 (by simpa using h)).1, rfl⟩
            have hzk2 : (z.k : Int) < 1000000 := Int.ofNat_lt.2 z.hk
            have hl6 : (N + 1 + pre.length + 1) * 96 ≤ 140737488355328 := room6 hNb (Nat.lt_of_lt_of_le hpre hq20)
            have HAPP := Lib.hid (fun (o' : Oper) (a : Act) (K : Act → World → Prop) (Q : Exit → Act → World → Prop) (ho : o'.op = .call { callee := .builtin .append, args := #[.tmp 98, .tmp 105], argTypes := #[128, 128] }) (hs : a.eval (.tmp 98) = .slice A1 (N + 1 + pre.length) cp1) (hx : a.eval (.tmp 105) = .slice (some ⟨W.heap.size, 0, none⟩) 1 1) => wp_append_row (Q := Q) (K := K) (.tmp 98) (.tmp 105) 128 ho 127 (.agg #[.int .i64 0, .string ByteArray.empty, .int .i64 0, .int .u64 0, .int .u64 0, .slice none 0 0, .int .i64 0, .bool false, .int .u64 0]) 9 96 Try.underlying128 info_todo rfl (by decide) (by decide) W.drew (TD.cells (tdOf l.length z)) rfl hs hx rfl (TD.one _) kr.drew hl6)
            gi_wp2
            refine wpIn_region_till 13 (fun W => W.cell? ⟨w.heap.size, 0, none⟩ = some (.pointer (some ⟨y, 0, none⟩)) ∧ W.cell? ⟨y, 3, none⟩ = some (.slice A1 (N + 1 + pre.length) cp1) ∧ W.cell? ⟨B4, 0, none⟩ = some (.int .i64 l.length) ∧ W.cell? ⟨Bx, 0, none⟩ = some (.int .i64 z.t.kind) ∧ W.cell? ⟨Bx, 1, none⟩ = some (.string z.t.name) ∧ W.cell? ⟨Bx, 2, none⟩ = some (.int .i64 z.t.int) ∧ W.cell? ⟨Bx, 3, none⟩ = some (.int .u64 z.t.re) ∧ W.cell? ⟨Bx, 4, none⟩ = some (.int .u64 z.t.im) ∧ W.cell? ⟨Bx, 5, none⟩ = some (.slice z.A z.l z.c)) (by kernel_rfl) (by kernel_rfl) (by rintro ⟨_, _, h⟩; exact h) ?_
            refine wpTill_take 0 (v := ?_) rfl (by kernel_rfl) (by kernel_rfl) (by kernel_rfl) (by kernel_rfl) (by kernel_rfl) (fun _ _ _ h => h) rfl HS ?_ ?_
            rotate_left 1
            · intro w hSw; go_split_ands; go_simp; try with_reducible rfl
            try simp only [Act.put, List.setIfInBounds_toArray, List.set_cons_zero, List.set_cons_succ, List.getElem_toArray, List.getElem_cons_succ, List.getElem_cons_zero]
            refine wpTill_take 1 (v := ?_) rfl (by kernel_rfl) (by kernel_rfl) (by kernel_rfl) (by kernel_rfl) (by kernel_rfl) (fun _ _ _ h => h) rfl HS ?_ ?_
            rotate_left 1
            · intro w hSw; go_split_ands; go_simp; try with_reducible rfl
            try simp only [Act.put, List.setIfInBounds_toArray, List.set_cons_zero, List.set_cons_succ, List.getElem_toArray, List.getElem_cons_succ, List.getElem_cons_zero]
            refine wpTill_take 2 (v := ?_) rfl (by kernel_rfl) (by kernel_rfl) (by kernel_rfl) (by kernel_rfl) (by kernel_rfl) (fun _ _ _ h => h) rfl HS ?_ ?_
            rotate_left 1
            · intro w hSw; go_split_ands; go_simp; try with_reducible rfl
            try simp only [Act.put, List.setIfInBounds_toArray, List.set_cons_zero, List.set_cons_succ, List.getElem_toArray, List.getElem_cons_succ, List.getElem_cons_zero]
            refine wpTill_take 3 (v := ?_) rfl (by kernel_rfl) (by kernel_rfl) (by kernel_rfl) (by kernel_rfl) (by kernel_rfl) (fun _ _ _ h => h) rfl HS ?_ ?_
            rotate_left 1
            · intro w hSw; go_split_ands; go_simp; try with_reducible rfl
            try simp only [Act.put, List.setIfInBounds_toArray, List.set_cons_zero, List.set_cons_succ, List.getElem_toArray, List.getElem_cons_succ, List.getElem_cons_zero]
            refine wpTill_take 4 (v := ?_) rfl (by kernel_rfl) (by kernel_rfl) (by kernel_rfl) (by kernel_rfl) (by kernel_rfl) (fun _ _ _ h => h) rfl HS ?_ ?_
            rotate_left 1
            · intro w hSw; go_split_ands; go_simp; try with_reducible rfl
            try simp only [Act.put, List.setIfInBounds_toArray, List.set_cons_zero, List.set_cons_succ, List.getElem_toArray, List.getElem_cons_succ, List.getElem_cons_zero]
            refine wpTill_take 5 (v := ?_) rfl (by kernel_rfl) (by kernel_rfl) (by kernel_rfl) (by kernel_rfl) (by kernel_rfl) (fun _ _ _ h => h) rfl HS ?_ ?_
            rotate_left 1
            · intro w hSw; go_split_ands; go_simp; try with_reducible rfl
            try simp only [Act.put, List.setIfInBounds_toArray, List.set_cons_zero, List.set_cons_succ, List.getElem_toArray, List.getElem_cons_succ, List.getElem_cons_zero]
            refine wpTill_take 6 (v := ?_) rfl (by kernel_rfl) (by kernel_rfl) (by kernel_rfl) (by kernel_rfl) (by kernel_rfl) (fun _ _ _ h => h) rfl HS ?_ ?_
            rotate_left 1
            · intro w hSw; go_split_ands; go_simp; try with_reducible rfl
            try simp only [Act.put, List.setIfInBounds_toArray, List.set_cons_zero, List.set_cons_succ, List.getElem_toArray, List.getElem_cons_succ, List.getElem_cons_zero]
            refine wpTill_take 7 (v := ?_) rfl (by kernel_rfl) (by kernel_rfl) (by kernel_rfl) (by kernel_rfl) (by kernel_rfl) (fun _ _ _ h => h) rfl HS ?_ ?_
            rotate_left 1
            · intro w hSw; go_split_ands; go_simp; try with_reducible rfl
            try simp only [Act.put, List.setIfInBounds_toArray, List.set_cons_zero, List.set_cons_succ, List.getElem_toArray, List.getElem_cons_succ, List.getElem_cons_zero]
            refine wpTill_take 8 (v := ?_) rfl (by kernel_rfl) (by kernel_rfl) (by kernel_rfl) (by kernel_rfl) (by kernel_rfl) (fun _ _ _ h => h) rfl HS ?_ ?_
            rotate_left 1
            · intro w hSw; go_split_ands; go_simp; try with_reducible rfl
            try simp only [Act.put, List.setIfInBounds_toArray, List.set_cons_zero, List.set_cons_succ, List.getElem_toArray, List.getElem_cons_succ, List.getElem_cons_zero]
            refine wpTill_take 9 (v := ?_) rfl (by kernel_rfl) (by kernel_rfl) (by kernel_rfl) (by kernel_rfl) (by kernel_rfl) (fun _ _ _ h => h) rfl HS ?_ ?_
            rotate_left 1
            · intro w hSw; go_split_ands; go_simp; try with_reducible rfl
            try simp only [Act.put, List.setIfInBounds_toArray, List.set_cons_zero, List.set_cons_succ, List.getElem_toArray, List.getElem_cons_succ, List.getElem_cons_zero]
            refine wpTill_take 10 (v := ?_) rfl (by kernel_rfl) (by kernel_rfl) (by kernel_rfl) (by kernel_rfl) (by kernel_rfl) (fun _ _ _ h => h) rfl HS ?_ ?_
            rotate_left 1
            · intro w hSw; go_split_ands; go_simp; try with_reducible rfl
            try simp only [Act.put, List.setIfInBounds_toArray, List.set_cons_zero, List.set_cons_succ, List.getElem_toArray, List.getElem_cons_succ, List.getElem_cons_zero]
            simp only [wrapA l.length z.k hll hzk2, wrapB l.length hll]
            refine wpTill_one 11 rfl (by kernel_rfl) rfl (fun K hK => ?_)
            go_simp
            refine hK.out _ _ (fun _ => HS11) ?_
            clear hK K
            try simp only [Act.put, List.setIfInBounds_toArray, List.set_cons_zero, List.set_cons_succ, List.getElem_toArray, List.getElem_cons_succ, List.getElem_cons_zero]
            refine wpTill_one 12 rfl (by kernel_rfl) rfl (fun K hK => ?_)
            refine HAPP.out _ _ _ _ rfl rfl rfl ?_; intro g2 cp2 w5 own5 kr5 xe5 ko5 kb5; have z5 := xe5.ofDraw; have hb6 := kb5 _ _ _ (Blk.drew kb) hne34; have fy6 := Blk.free hb6 3; have cy6 := Blk.cell hb6 3 rfl; have s6 := hstore own5 w5 hb6.2; have p1 := m1.keep z5 hHy; have p4 := m4.keep z5 hHy; have px := hpx own5 w5 z5 kb5
            refine hK.out _ _ (fun _ => ⟨p1.cell 0 rfl, cy6, p4.cell 0 rfl, px.cell 0 rfl, px.cell 1 rfl, px.cell 2 rfl, px.cell 3 rfl, px.cell 4 rfl, px.cell 5 rfl⟩) ?_
            clear hK K
            try simp only [Act.put, List.setIfInBounds_toArray, List.set_cons_zero, List.set_cons_succ, List.getElem_toArray, List.getElem_cons_succ, List.getElem_cons_zero]
            refine wpTill_pure 13 (v := ?_) rfl (by kernel_rfl) (by kernel_rfl) rfl ?_ ?_
            rotate_left 1
            · go_simp; try with_reducible rfl
            try simp only [Act.put, List.setIfInBounds_toArray, List.set_cons_zero, List.set_cons_succ, List.getElem_toArray, List.getElem_cons_succ, List.getElem_cons_zero]
            refine wpTill_pure 14 (v := ?_) rfl (by kernel_rfl) (by kernel_rfl) rfl ?_ ?_
            rotate_left 1
            · go_simp; try with_reducible rfl
            try simp only [Act.put, List.setIfInBounds_toArray, List.set_cons_zero, List.set_cons_succ, List.getElem_toArray, List.getElem_cons_succ, List.getElem_cons_zero]
            refine wpTill_one 15 rfl (by kernel_rfl) rfl (fun K hK => ?_)
            go_simp
            refine hK.out _ _ (Till.gone (by kernel_rfl)) ?_
            clear hK K
            try simp only [Act.put, List.setIfInBounds_toArray, List.set_cons_zero, List.set_cons_succ, List.getElem_toArray, List.getElem_cons_succ, List.getElem_cons_zero]
            refine wpTill_done (by kernel_rfl) ?_ _
            have y6 := s6 (.slice (some ⟨g2, 0, none⟩) (N + 1 + pre.length + 1) cp2)
            have hkb : own' W7.heap.size ∉ [idy] := by rw [(k8.keep xe hyH).2]; exact hyH
            have hbo : own' b ∉ [idy] := by rw [xe.own b (Nat.lt_of_lt_of_le hbl (by rw [hsz8]; exact Nat.le_succ _))]; exact hyb
            have hby : b ≠ y := fun e => hbo (by rw [e, kb.2]; simp)
            have h7y : W7.heap.size ≠ y := fun e => by rw [e] at hkb; exact hkb (by rw [kb.2]; simp)
            refine ⟨KeepsOthers.from (KeepsOthers.trans ((KeepsOthers.drew W).trans ko5) (KeepsOthers.setCell _ _ _)) _, fun k hk => ?_, own5, _, (xe.trans z5).trans y6, Blk.set hb6 3 _, ?_⟩
            · rcases hk with rfl | rfl
              · exact (Below.heap_setCell _ _ _ _ h7y).trans (z5.block _ (Nat.lt_of_lt_of_le (by rw [hsz8]; exact Nat.lt_succ_self _) xe.size) hkb)
              · exact (Below.heap_setCell _ _ _ _ hby).trans (z5.block _ (Nat.lt_of_lt_of_le (Nat.lt_of_lt_of_le hbl (by rw [hsz8]; exact Nat.le_succ _)) xe.size) hbo)
            · have hfar := kr5.far (p := ⟨y, 3, none⟩) (kr5.ne_blk hb6 hne34) (.slice (some ⟨g2, 0, none⟩) (N + 1 + pre.length + 1) cp2)
              have hl : tdCells (stk ++ ⟨.mk 0 ByteArray.empty 0 0 0 [], none, 0, 0, at_, true, (l.length : Int) * 8 + 1⟩ :: pre.map (tdOf l.length)) ++ TD.cells (tdOf l.length z) = tdCells (stk ++ ⟨.mk 0 ByteArray.empty 0 0 0 [], none, 0, 0, at_, true, (l.length : Int) * 8 + 1⟩ :: (pre ++ [z]).map (tdOf l.length)) := by
                rw [List.map_append, ← List.cons_append, ← List.append_assoc, tdCells_append (_ ++ _)]
                simp [tdCells]
              rw [← hl, List.length_append, ← Nat.add_assoc]
              exact hfar
          case done =>
            rintro D ys W hD rfl ⟨own', v', xe, kb, kr⟩ hK
            obtain ⟨A1, cp1, rfl, hc1⟩ := kr.form
            go_wp2
            refine ⟨by simp, .inl ⟨_, _, rfl, run_takeDeferred hK, ?_⟩⟩
            refine ⟨_, results_tmp2 rfl _ _ _, ?_⟩
            have hgr := grownBy_putObj' W D (.deferred none)
            have hgo : ∀ r, some D = some r → W8.heap.size ≤ r ∧ ∃ o : Obj, W.heap[r]? = some o ∧ o.isCells = false := fun r e => by cases e; exact ⟨hD, _, hK, rfl⟩
            have hput := kr.grownNC (B := W8.heap.size) hgr hgo
            have hbp := Blk.grownNC (B := W8.heap.size) kb hgr hgo
            have xg := xe.grown hgr (fun k hk hlt => by cases hk; exact absurd hlt (Nat.not_lt.2 hD))
            rw [bwUp_length q (Nat.le_of_eq e1.symm)] at hput
            refine ⟨own', (x8.mono (by simp)).trans (xg.mono (by simp)), ?_, ?_⟩
            · rw [HT.out]; rfl
            · rw [HT.out]
              refine ⟨hh8.keep xg hhy, ha8.keep xg hay hmy, _, ⟨.mk 0 ByteArray.empty 0 0 0 [], none, 0, 0, at_, true, (l.length : Int) * 8 + 1⟩ :: (bwUp es hle q).map (tdOf l.length), hbp, ?_, ?_, ?_⟩
              · rw [List.length_cons, List.length_map, bwUp_length q (Nat.le_of_eq e1.symm), Nat.add_comm q 1, ← Nat.add_assoc]
                exact hput
              · intro _
                obtain ⟨z1, z2⟩ := bwUp_terms (es := es) (h := hle) q (Nat.le_of_eq e1.symm)
                refine ⟨?_, ?_⟩
                · have z3 := bwUp_todos (es := es) (h := hle) l.length q (Nat.le_of_eq e1.symm)
                  rw [e1, Nat.sub_self, List.drop_zero, e2] at z3
                  rw [List.map_cons, List.reverse_cons, z3]
                  rfl
                · intro z hz
                  rcases List.mem_cons.1 hz with rfl | hz
                  · exact ⟨⟨tm0 _ _, fun _ => rfl, hat0, hat1, lc0 _, lc1 _ hll⟩, fun h => by cases h⟩
                  · obtain ⟨z', hz', rfl⟩ := List.mem_map.1 hz
                    have hk := bwUp_k q (Nat.le_of_eq e1.symm) z' hz'
                    have hm := z2 z' hz'
                    refine ⟨⟨TmS.keep xg hy0 z'.t _ (TmS.keep y8 (by simp) z'.t _ (e3 _ hm)), (fun h => by cases h), ?_, ?_, Int.le_refl 0, (show (0 : Int) < 18446744073709551616 by decide)⟩, fun _ => ?_⟩
                    · exact atLo _ _
                    · exact atHi hAt (by rw [e1] at hk; exact hk)
                    · rw [← e2]; exact List.mem_map.2 ⟨_, hm, rfl⟩
              · rw [List.length_cons, List.length_map, bwUp_length q (Nat.le_of_eq e1.symm)]; exact Nat.succ_le_succ hq20
          case stop =>
            rintro D c pre W _ _ h _
            exact h.elim
    · skip
      have HT := Lib.hid (compT_e2 (most := most) (k := args.length) (st := ⟨l, L, V⟩) hE hroom)
      have hfull : (l.length : Int) = most := by have := hh3.len; omega
      have hfin : CompEnd own2 idh ida idm idy w2 y ph pa mb most at_ stk N args (⟨l, numL L s, V⟩, 0, 4) :=
        ⟨hh3, ha2, v, [], hb3, by simpa using hR3, fun h => by simp at h, by simp⟩
      have HFI := Lib.hid (And.intro x4 hfin)
      clear hroom hfin
      go_wp2_with (go_at_call 159; refine (functor_any i len _ hi4 (by omega) (by omega)).mono ?_; rintro e w' ⟨rfl, rfl⟩)
      refine (push_full own2 idh ph most (funC i len) l _ hh3 hfull).mono ?_
      rintro e w3 ⟨rfl, m, rfl⟩
      have x5 := (Ext.refl own2 [] w').drewN m
      have hfi2 := HFI.out.2.keep x5
      have hfx2 := HFI.out.1.drewN m
      generalize w'.drewN m = w5 at *
      have y5 := (Ext.refl own2 [] w5).alloc (.cells #[.int .i64 0] 3)
      have HF5 := Lib.hid (And.intro (hfx2.alloc (.cells #[.int .i64 0] 3)) (hfi2.keep y5))
      clear hfi2 hfx2 y5 x5
      go_wp2_with fail
      refine ⟨_, results_tmp2 rfl _ _ _, own2, HF5.out.1, ?_, ?_⟩
      · rw [HT.out]; rfl
      · rw [HT.out]; exact HF5.out.2
  · have hE' : (numE L s == 0) = false := by simpa using hE
    have HT := Lib.hid (compT_e1 (most := most) (k := args.length) (st := ⟨l, L, V⟩) hE)
    have hfin : CompEnd own2 idh ida idm idy w2 y ph pa mb most at_ stk N args (⟨l, L, V⟩, 0, numE L s) := by
      refine ⟨hh3, ?_, v, [], hb3, by simpa using hR3, fun h => absurd h hE, by simp⟩
      have e1 : numL L s = L := by
        unfold numE at hE
        unfold numL
        split at hE
        · rw [if_pos (by assumption)]
        · rw [if_neg (by assumption)]
          split at hE
          · simp at hE
          · rw [if_neg (by assumption)]
            split at hE
            · rw [if_pos (by assumption)]
            · simp at hE
      rw [e1] at ha2
      exact ha2
    have HFI := Lib.hid (And.intro x4 hfin)
    have hcc : compC (⟨l, L, V⟩, 0, numE L s) = 0 := by unfold compC; rw [if_neg hE]
    have HC := Lib.hid hcc
    clear hfin hcc x4 m1 m2 m3 hb3 hR3 hh3 hL3 ha2
    go_wp2_with fail
    refine ⟨_, results_tmp2 rfl _ _ _, ?_⟩
    refine ⟨own2, HFI.out.1, ?_, ?_⟩
    · rw [HT.out, HC.out]; rfl
    · rw [HT.out]; exact HFI.out.2

end Go.Proofs.Ytlmcfclonncgbaa
