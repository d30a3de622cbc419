/- slices.Backward over terms: the iterator's contract. -/
import Derived.Test.YtlmcfclonncgbaaLight
import Derived.Test.YtlmcfclonncgbaaBox
import Derived.RangeFuncNested
import Derived.RangeFuncBound
import Derived.RangeFuncCalls
import Derived.RangeFuncLeaves
import Derived.Shelf.Abstract
import Derived.Shelf.RegionOpen
import Derived.OwnWalkIn
import Derived.TacticsInMore
import Derived.LoopNIn
import Derived.LoopIn
namespace Go.Proofs.Ytlmcfclonncgbaa
open Go.RowKit
set_option linter.unusedVariables false

open Go.Shelf
attribute [local go_sem] Oper.semAt_some
/-- What a round is handed: a place, a term, its arguments' slice. -/
structure BX where
  k : Nat
  t : Tm
  A : Option Addr
  l : Nat
  c : Nat
  hk : k < 1000000
def BX.sl (x : BX) : Value := .slice x.A x.l x.c
def encs (x : BX) : Array Value := #[.int .i64 (x.k : Int), .agg #[.int .i64 x.t.kind, .string x.t.name, .int .i64 x.t.int, .int .u64 x.t.re, .int .u64 x.t.im, .slice x.A x.l x.c]]
/-- These blocks are as they were. -/
def KpS (S : Nat → Prop) (W W' : World) : Prop := ∀ k, S k → W'.heap[k]? = W.heap[k]?
theorem KpS.refl (S : Nat → Prop) (W : World) : KpS S W W := fun _ _ => rfl
theorem KpS.trans {S : Nat → Prop} {A B C : World} (h : KpS S A B) (k : KpS S B C) : KpS S A C := fun j hj => (k j hj).trans (h j hj)
theorem KpS.cell {S : Nat → Prop} {W W' : World} (h : KpS S W W') {p : Addr} (hp : S p.block) : W'.cell? p = W.cell? p := by
  unfold World.cell?; rw [h _ hp]
theorem KpS.book {S : Nat → Prop} {B : Nat} (hS : ∀ k, S k → k < B) (W : World) (l : Nat) (o o' : Obj) (hl : B ≤ l) (_ : W.heap[l]? = some o) (_ : o.isCells = false) (_ : o.isWalk = false) : KpS S W (W.putObj l o') := fun k hk =>
  World.putObj_heap_other (by have := hS k hk; omega)
/-- The first k of what comes, from behind. -/
def bwUp (es : List (Tm × Option Addr × Nat × Nat)) (h : es.length ≤ 1000000) : Nat → List BX
  | 0 => []
  | k + 1 => bwUp es h k ++ (match hh : es[es.length - 1 - k]? with
    | some e => [⟨es.length - 1 - k, e.1, e.2.1, e.2.2.1, e.2.2.2, by have := (List.getElem?_eq_some_iff.1 hh).1; omega⟩]
    | none => [])
theorem bwUp_succ {es : List (Tm × Option Addr × Nat × Nat)} {h : es.length ≤ 1000000} {k : Nat} {e : Tm × Option Addr × Nat × Nat} (he : es[es.length - 1 - k]? = some e) (hk : es.length - 1 - k < 1000000) :
    bwUp es h (k + 1) = bwUp es h k ++ [⟨es.length - 1 - k, e.1, e.2.1, e.2.2.1, e.2.2.2, hk⟩] := by
  show bwUp es h k ++ _ = _
  congr 1
  split
  · rename_i e' hh
    rw [he] at hh
    cases hh
    rfl
  · rename_i hh
    rw [he] at hh
    cases hh
theorem bwUp_next {es : List (Tm × Option Addr × Nat × Nat)} {h : es.length ≤ 1000000} {k q : Nat} {e : Tm × Option Addr × Nat × Nat} (hq : es.length - 1 - k = q) (he : es[q]? = some e) (hk : q < 1000000) :
    bwUp es h (k + 1) = bwUp es h k ++ [⟨q, e.1, e.2.1, e.2.2.1, e.2.2.2, hk⟩] := by
  subst hq
  exact bwUp_succ he hk
theorem bwUp_length {es : List (Tm × Option Addr × Nat × Nat)} {h : es.length ≤ 1000000} : ∀ k, k ≤ es.length → (bwUp es h k).length = k
  | 0, _ => rfl
  | k + 1, hk => by
    obtain ⟨e, he⟩ : ∃ e, es[es.length - 1 - k]? = some e := ⟨_, List.getElem?_eq_getElem (by omega)⟩
    rw [bwUp_succ he (by omega), List.length_append, bwUp_length k (by omega)]
    rfl
/-- The elements of a slice, cell by cell. -/
def Els (w : World) (b o : Nat) (es : List (Tm × Option Addr × Nat × Nat)) : Prop := ∀ j e, es[j]? = some e →
  w.cell? ⟨b, o + j * 6, none⟩ = some (.int .i64 e.1.kind) ∧ w.cell? ⟨b, o + j * 6 + 1, none⟩ = some (.string e.1.name) ∧ w.cell? ⟨b, o + j * 6 + 2, none⟩ = some (.int .i64 e.1.int) ∧
    w.cell? ⟨b, o + j * 6 + 3, none⟩ = some (.int .u64 e.1.re) ∧ w.cell? ⟨b, o + j * 6 + 4, none⟩ = some (.int .u64 e.1.im) ∧ w.cell? ⟨b, o + j * 6 + 5, none⟩ = some (.slice e.2.1 e.2.2.1 e.2.2.2)

set_option maxRecDepth 100000 in
set_option maxHeartbeats 4000000 in
theorem bw1_in (F : Fence) (n : Nat) (h165 : F.fn 165) (hro : F.round = none) (hn : 1 ≤ n) (l Bn b off len cap : Nat) (es : List (Tm × Option Addr × Nat × Nat)) (hlen : es.length = len) (hle : es.length ≤ 1000000) (S : Nat → Prop) (hS1 : S Bn) (hS2 : S b) (J Jx : List BX → World → Prop)
    (hY : ∀ pre x W, J pre W → pre.length < len → YieldAt F (n - 1) Try.prog l (encs x) W fun e W' =>
      (e = .returned (.bool true) ∧ J (pre ++ [x]) W' ∧ KpS S W W') ∨ (e = .returned (.bool false) ∧ Jx (pre ++ [x]) W'))
    (W : World) (hBn : W.cell? ⟨Bn, 0, none⟩ = some (.slice (some ⟨b, off, none⟩) len cap)) (hc : Els W b off es) (h0 : J [] W) :
    CallsIn F n Try.prog 165 #[.func (.yield l) #[] #[], .pointer (some ⟨Bn, 0, none⟩)] W fun e W' => (∃ v, e = .returned v) ∧
      ((∃ ys, ys = bwUp es hle len ∧ J ys W') ∨ (∃ pre, True ∧ Jx pre W')) := by
  refine callsIn_of_wp Try.func165 rfl h165 ?_ hro
  simp only [Try.ntmps165, List.size_toArray, List.length_cons, List.length_nil, Nat.reduceAdd, Nat.reduceSub, Array.replicate_succ, Array.replicate_zero, List.push_toArray, List.append_toArray, List.nil_append, List.cons_append]
  have hll : (len : Int) ≤ 1000000 := by omega
  gi_wp2
  gi_loopw [3] (fun i wr => ∃ k : Nat, k ≤ len ∧ i = .int .i64 ((len : Int) - 1 - k) ∧ J (bwUp es hle k) wr ∧ KpS S W wr) (fun i _ => (intOf i + 1).toNat)
  case atStart => exact ⟨0, Nat.zero_le _, by simp, h0, KpS.refl _ _⟩
  case round =>
    obtain ⟨k, hk, rfl, hJs, hnx⟩ := hrel
    by_cases hlt : k < len
    · obtain ⟨e, he⟩ : ∃ e, es[es.length - 1 - k]? = some e := ⟨_, List.getElem?_eq_getElem (by omega)⟩
      obtain ⟨d0, d1, d2, d3, d4, d5⟩ := hc _ e he
      obtain ⟨q, hq⟩ : ∃ q : Nat, (len : Int) - 1 - k = q := ⟨es.length - 1 - k, by omega⟩
      have hq' : es.length - 1 - k = q := by omega
      rw [hq'] at d0 d1 d2 d3 d4 d5 he
      have c0 := (hnx.cell (p := ⟨b, _, none⟩) hS2).trans d0
      have c1 := (hnx.cell (p := ⟨b, _, none⟩) hS2).trans d1
      have c2 := (hnx.cell (p := ⟨b, _, none⟩) hS2).trans d2
      have c3 := (hnx.cell (p := ⟨b, _, none⟩) hS2).trans d3
      have c4 := (hnx.cell (p := ⟨b, _, none⟩) hS2).trans d4
      have c5 := (hnx.cell (p := ⟨b, _, none⟩) hS2).trans d5
      have cb := (hnx.cell (p := ⟨Bn, 0, none⟩) hS1).trans hBn
      have hql : q < len := by omega
      have hqb : q < 1000000 := by omega
      obtain ⟨fn, tmps, assign, body, hy, hR⟩ := hY _ ⟨q, e.1, e.2.1, e.2.2.1, e.2.2.2, hqb⟩ wr hJs (by rw [bwUp_length _ (by omega)]; exact hlt)
      have hsucc := bwUp_next (h := hle) hq' he hqb
      have HS := Lib.hid hsucc
      have HE := Lib.hid he
      rw [hq]
      dsimp only [encs] at hy
      clear d0 d1 d2 d3 d4 d5 hBn hsucc he
      gi_wp2
      refine hR.mono ?_
      rintro e' W3 (⟨rfl, hJ3, hk3⟩ | ⟨rfl, hJx3⟩)
      · gi_wp2
        go_roundw
        case rel => exact ⟨k + 1, by omega, by congr 1; omega, by rw [HS.out]; exact hJ3, hnx.trans hk3⟩
        case measure => simp only [intOf]; omega
      · gi_wp2
        refine bodyPost_ret (results_none rfl _ _ _) rfl ?_
        exact ⟨⟨_, rfl⟩, .inr ⟨_, trivial, hJx3⟩⟩
    · obtain rfl : k = len := by omega
      gi_wp2
      go_end0
      exact ⟨⟨_, rfl⟩, .inl ⟨_, rfl, hJs⟩⟩

/-- A slice of terms, its elements. -/
theorem TmL.els {own : Nat → Nat} {w : World} {l : List Tm} {A : Option Addr} {len cap : Nat} (h : TmL own w l A len cap) (h0 : 0 < len) :
    ∃ es : List (Tm × Option Addr × Nat × Nat), es.length = len ∧ es.map (·.1) = l ∧ (∀ e ∈ es, TmS own w e.1 (.slice e.2.1 e.2.2.1 e.2.2.2)) ∧ ∃ b o, A = some ⟨b, o, none⟩ ∧ b < w.heap.size ∧ own b = 0 ∧ Els w b o es := by
  obtain ⟨es, hl, hq⟩ := list_of (Q := fun j (e : Tm × Option Addr × Nat × Nat) => ∃ b o, A = some ⟨b, o, none⟩ ∧ b < w.heap.size ∧ own b = 0 ∧ l[j]? = some e.1 ∧ TmS own w e.1 (.slice e.2.1 e.2.2.1 e.2.2.2) ∧ ∀ q u, (cellsT e.1 (.slice e.2.1 e.2.2.1 e.2.2.2))[q]? = some u → w.cell? ⟨b, o + j * 6 + q, none⟩ = some u) len (fun j hj => by
    obtain ⟨t, b, o, sl, h1, h2, h3, h4, h5, h6⟩ := h.get j hj
    obtain ⟨A', l', c', rfl, _⟩ := h3.args
    exact ⟨⟨t, A', l', c'⟩, b, o, h2, h4, h5, h1, h3, h6⟩)
  refine ⟨es, hl, ?_, ?_, ?_⟩
  · apply List.ext_getElem?
    intro j
    rw [List.getElem?_map]
    by_cases hj : j < len
    · obtain ⟨e, he⟩ : ∃ e, es[j]? = some e := ⟨_, List.getElem?_eq_getElem (by omega)⟩
      obtain ⟨_, _, _, _, _, h1, _⟩ := hq j e he
      rw [he, h1]; rfl
    · rw [List.getElem?_eq_none (by omega), List.getElem?_eq_none (by rw [h.1]; omega)]; rfl
  · intro e he
    obtain ⟨j, hj⟩ := List.getElem?_of_mem he
    obtain ⟨_, _, _, _, _, _, h2, _⟩ := hq j e hj
    exact h2
  · obtain ⟨e, he⟩ : ∃ e, es[0]? = some e := ⟨_, List.getElem?_eq_getElem (by omega)⟩
    obtain ⟨b, o, hA, hb, ho, _⟩ := hq 0 e he
    refine ⟨b, o, hA, hb, ho, fun j e he => ?_⟩
    obtain ⟨b', o', hA', _, _, _, _, h6⟩ := hq j e he
    rw [hA] at hA'
    simp at hA'
    obtain ⟨rfl, rfl⟩ := hA'
    exact ⟨h6 0 _ rfl, h6 1 _ rfl, h6 2 _ rfl, h6 3 _ rfl, h6 4 _ rfl, h6 5 _ rfl⟩
theorem bw_stops (F : Fence) (n : Nat) (h165 : F.fn 165) (hro : F.round = none) (hn : 1 ≤ n) (Bn b off len cap : Nat) (es : List (Tm × Option Addr × Nat × Nat)) (hlen : es.length = len) (hle : es.length ≤ 1000000) (S : Nat → Prop) (hS1 : S Bn) (hS2 : S b) (w : World)
    (hBl : Bn < w.heap.size) (hbl : b < w.heap.size) (hBn : w.cell? ⟨Bn, 0, none⟩ = some (.slice (some ⟨b, off, none⟩) len cap)) (hc : Els w b off es) :
    SeqStopsK F n Try.prog 165 #[.pointer (some ⟨Bn, 0, none⟩)] encs (KpS S) (fun ys => ys = bwUp es hle len) (fun _ => True) len w := fun l J Jx W hW _ _ hY h0 =>
  bw1_in F n h165 hro hn l Bn b off len cap es hlen hle S hS1 hS2 J Jx hY W ((hW.cell (p := ⟨Bn, 0, none⟩) hBl).trans hBn)
    (fun j e he => by
      obtain ⟨c0, c1, c2, c3, c4, c5⟩ := hc j e he
      exact ⟨(hW.cell (p := ⟨b, _, none⟩) hbl).trans c0, (hW.cell (p := ⟨b, _, none⟩) hbl).trans c1, (hW.cell (p := ⟨b, _, none⟩) hbl).trans c2, (hW.cell (p := ⟨b, _, none⟩) hbl).trans c3, (hW.cell (p := ⟨b, _, none⟩) hbl).trans c4, (hW.cell (p := ⟨b, _, none⟩) hbl).trans c5⟩) h0
set_option maxHeartbeats 1000000 in
theorem bw_any (A : Option Addr) (len cap : Nat) (w : World) : Calls Try.prog 160 #[.slice A len cap] w fun e w' => e = .returned (.func (.func 165) #[] #[.pointer (some ⟨w.heap.size, 0, none⟩)]) ∧ w' = w.alloc (.cells #[.slice A len cap] 23) := by
  go_enter Try.func160, Try.ntmps160
  go_wp2
  go_ret
  exact ⟨rfl, rfl⟩
/-- What is no cells may turn. -/
theorem Blk.grownNC {own : Nat → Nat} {id B : Nat} {w w' : World} {b : Nat} {cs : List Value} {t : TypeId} {row : Option Nat} (h : Blk own id w b cs t) (hg : w.grownBy w' row) (hr : ∀ r, row = some r → B ≤ r ∧ ∃ o : Obj, w.heap[r]? = some o ∧ o.isCells = false) : Blk own id w' b cs t := by
  refine ⟨(hg.block b h.lt (fun e => ?_)).trans h.1, h.2⟩
  obtain ⟨_, o, ho, hc⟩ := hr b e.symm
  rw [h.1] at ho
  cases ho
  cases hc
theorem Row.grownNC {own : Nat → Nat} {id B : Nat} {w w' : World} {e : TypeId} {size n : Nat} {v : Value} {xs : List Value} {row : Option Nat} (h : Row own id w e size v n xs) (hg : w.grownBy w' row) (hr : ∀ r, row = some r → B ≤ r ∧ ∃ o : Obj, w.heap[r]? = some o ∧ o.isCells = false) : Row own id w' e size v n xs := by
  refine ⟨ownsRow_move h.1 (fun k hk => hg.block k (h.lt k hk) (fun e => ?_)), h.2⟩
  obtain ⟨_, o, ho, hc⟩ := hr k e.symm
  obtain ⟨_, _, cur, hv, _, hh, _⟩ := h.1.2.resolve_left (fun h' => by rw [h'.1] at hk; simp [Value.ownBlock] at hk)
  rw [hv] at hk
  simp [Value.ownBlock] at hk
  subst hk
  rw [hh] at ho
  cases ho
  cases hc
/-- An append on a row of one's own turns the row's block alone. -/
theorem run_append_rowK {P : Program} (t ty e : TypeId) (z : Value) (size bytes : Nat)
    (ht : P.underlying t = some (.slice e)) (hinfo : (P.info? e).map (fun i => (i.zero, i.size, i.bytes)) = some (some z, size, bytes)) (hz : z.cells.size = size) (hs0 : 0 < size) (hb0 : 0 < bytes)
    {own : Nat → Nat} {id n : Nat} {W : World} {v : Value} {xs ys : List Value} (hys : ys.length = size) (h1 : ∀ u ∈ ys, u.oneCell' = true)
    (HO : Row own id W e size v n xs) (hl : (n + 1) * bytes ≤ 140737488355328) :
    ∃ g cap w1 own1, (Builtin.append_ #[t, t] ty #[v, .slice (some ⟨W.heap.size, 0, none⟩) 1 1]).run P (W.alloc (.cells ys.toArray e)) = .ok (.slice (some ⟨g, 0, none⟩) (n + 1) cap) w1 ∧
      Row own1 id w1 e size (.slice (some ⟨g, 0, none⟩) (n + 1) cap) (n + 1) (xs ++ ys) ∧ Ext own own1 [id] W w1 ∧ KeepsOthers W w1 := by
  obtain ⟨i0, hi, hzz⟩ := Option.map_eq_some_iff.1 hinfo
  simp only [Prod.mk.injEq] at hzz
  obtain ⟨hz0, hz1, hz2⟩ := hzz
  have hlen : n + 1 ≤ 140737488355328 := Nat.le_trans (Nat.le_mul_of_pos_right _ hb0) hl
  obtain ⟨v1, w1, hr, hown, hg, _, hat⟩ := run_append_own_at (P := P) (W.alloc (.cells ys.toArray e)) 0 t ty e i0 z size bytes ht hi hz0 hz1 hz2 hz hs0 v n xs (HO.1.alloc _) ⟨W.heap.size, 0, none⟩ 1 1 ys (by rw [hys]; simp)
    (by simpa using World.news_of_block (cs := ys.toArray) (t := e) (fr := (0, 0)) (heap_alloc_new W (.cells ys.toArray e))) h1 (by simp only [maxLen]; omega) hl (by simp)
  obtain ⟨g, cap, rfl⟩ : ∃ g cap, v1 = .slice (some ⟨g, 0, none⟩) (n + 1) cap := by
    rcases hown.2 with ⟨_, h⟩ | ⟨g, cap, _, h, _⟩
    · omega
    · exact ⟨g, cap, h⟩
  have hx0 : Ext own own [id] W w1 := ((Ext.refl own [id] W).alloc _).grown hg (fun k hk hlt => by rw [HO.2 k hk]; simp)
  refine ⟨g, cap, w1, giveFrom own W.heap.size id, hr, ⟨hown, ?_⟩, hx0.giveFrom _ id (Nat.le_refl _), ?_⟩
  · intro k hk
    unfold giveFrom
    by_cases hlt : W.heap.size ≤ k
    · rw [if_pos hlt]
    · rw [if_neg hlt]
      rcases hat with hat | hat
      · exact HO.2 k (hat.symm.trans hk)
      · rw [hat] at hk; simp at hk; omega
  · refine (KeepsOthers.alloc W _).trans (KeepsOthers.of_grownBy hg fun j o hj ho => ?_)
    obtain ⟨_, _, cur, hv, _, hh, _⟩ := HO.1.2.resolve_left (fun h' => by rw [h'.1] at hj; simp [Value.ownBlock] at hj)
    rw [hv] at hj
    simp [Value.ownBlock] at hj
    subst hj
    rw [(Below.heap_alloc _ _ _ (HO.lt _ (by rw [hv]; rfl))).trans hh] at ho
    cases ho
    rfl
theorem wpListIn_append_row {F : Fence} {N : Nat} {P : Program} {ops : Array Oper} {rest : List Oper} {o : Oper} {a : Act} {Q : Exit → Act → World → Prop} (hgd : o.guard = none) (s x : Operand) (t : TypeId)
    (ho : o.op = .call { callee := .builtin .append, args := #[s, x], argTypes := #[t, t] }) (e : TypeId) (z : Value) (size bytes : Nat)
    (ht : P.underlying t = some (.slice e)) (hinfo : (P.info? e).map (fun i => (i.zero, i.size, i.bytes)) = some (some z, size, bytes)) (hz : z.cells.size = size) (hs0 : 0 < size) (hb0 : 0 < bytes)
    {own : Nat → Nat} {id n : Nat} {W : World} {v : Value} {xs ys : List Value} (hs : a.eval s = v) (hx : a.eval x = .slice (some ⟨W.heap.size, 0, none⟩) 1 1) (hys : ys.length = size) (h1 : ∀ u ∈ ys, u.oneCell' = true)
    (HO : Row own id W e size v n xs) (hl : (n + 1) * bytes ≤ 140737488355328)
    (h : ∀ g cap w1 own1, Row own1 id w1 e size (.slice (some ⟨g, 0, none⟩) (n + 1) cap) (n + 1) (xs ++ ys) → Ext own own1 [id] W w1 →
      KeepsOthers W w1 → wpListIn F N P ops Q rest (a.put o.dst (.slice (some ⟨g, 0, none⟩) (n + 1) cap)) w1) :
    wpListIn F N P ops Q (o :: rest) a (W.alloc (.cells ys.toArray e)) := by
  refine wpListIn_plain hgd fun K hK => ?_
  obtain ⟨g, cap, w1, own1, hr, h2, h3, h4⟩ := run_append_rowK (P := P) t o.type e z size bytes ht hinfo hz hs0 hb0 hys h1 HO hl
  unfold Oper.wpIn
  refine ⟨?_, ?_⟩
  · simp [Oper.about, ho, resolve, Target.leads, Sem.run_pure]
  · rw [Oper.semAt_plain F _ _ (by rw [ho]; intro c hc'; cases hc')]
    simp [execOp, ho, resolve, invoke, builtin, hs, hx, hr, Result.andThen]
    exact hK _ _ (h g cap w1 own1 h2 h3 h4)

end Go.Proofs.Ytlmcfclonncgbaa
