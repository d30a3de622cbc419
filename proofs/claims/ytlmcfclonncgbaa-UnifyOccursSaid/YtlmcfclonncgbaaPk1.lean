/- Texts that stand together: Mem, Bits, Mem2, Tree, Cell, Heap, Box, GoS, Rep. -/
import Derived.WalkKit
import Derived.Below
import Derived.Laws.AppendOwn
import Derived.OwnWalk
import Derived.KernelRfl
import Derived.Lib.Hide
import Derived.Deep.Draws
import Derived.Maps.AppendAt
import Derived.Deep.AppendLies
import Derived.RowKit3
import Derived.Laws.BitsLemmas
import Derived.Deep.RegionLaw
import Derived.Test.YtlmcfclonncgbaaRows
import Derived.WalkLawsBesides
import Derived.BigQuiet
import Derived.Deep.QuietTactic
import Derived.WalkSpells
/- Which block is whose: a ghost map from blocks to owners. What a call on some owners' objects leaves of all other memory; the two kinds of things that an object is made of: a block known whole, a row that grows. -/
namespace Go.Proofs.Ytlmcfclonncgbaa
open Go.RowKit

/-- From w to w': the streams stand, no block has gone; blocks keep their owners; of w's blocks only those of the owners in 'ids' may have turned. -/
structure Ext (o o' : Nat → Nat) (ids : List Nat) (w w' : World) : Prop where
  os : w'.os = w.os
  tape : w'.tape = w.tape
  output : w'.output = w.output
  size : w.heap.size ≤ w'.heap.size
  own : ∀ b, b < w.heap.size → o' b = o b
  block : ∀ b, b < w.heap.size → o b ∉ ids → w'.heap[b]? = w.heap[b]?

theorem Ext.refl (own : Nat → Nat) (ids : List Nat) (w : World) : Ext own own ids w w := ⟨rfl, rfl, rfl, Nat.le_refl _, fun _ _ => rfl, fun _ _ _ => rfl⟩

theorem Ext.mono {o o' : Nat → Nat} {ids jds : List Nat} {w w' : World} (h : Ext o o' ids w w') (hs : ∀ i, i ∈ ids → i ∈ jds) : Ext o o' jds w w' :=
  ⟨h.os, h.tape, h.output, h.size, h.own, fun b hb hn => h.block b hb (fun hi => hn (hs _ hi))⟩

theorem Ext.trans {o o1 o2 : Nat → Nat} {ids : List Nat} {w w1 w2 : World} (h : Ext o o1 ids w w1) (k : Ext o1 o2 ids w1 w2) : Ext o o2 ids w w2 :=
  ⟨k.os.trans h.os, k.tape.trans h.tape, k.output.trans h.output, Nat.le_trans h.size k.size,
    fun b hb => (k.own b (Nat.lt_of_lt_of_le hb h.size)).trans (h.own b hb),
    fun b hb hn => (k.block b (Nat.lt_of_lt_of_le hb h.size) (by rw [h.own b hb]; exact hn)).trans (h.block b hb hn)⟩

/-- The second step may touch owners that are none of the first world's. -/
theorem Ext.then {o o1 o2 : Nat → Nat} {ids jds kds : List Nat} {w w1 w2 : World} (h : Ext o o1 ids w w1) (k : Ext o1 o2 jds w1 w2) (hi : ∀ i, i ∈ ids → i ∈ kds) (hj : ∀ i, i ∈ jds → i ∈ kds) : Ext o o2 kds w w2 :=
  (h.mono hi).trans (k.mono hj)

theorem Ext.alloc {o o' : Nat → Nat} {ids : List Nat} {w w' : World} (h : Ext o o' ids w w') (x : Obj) : Ext o o' ids w (w'.alloc x) :=
  ⟨h.os, h.tape, h.output, by have := h.size; simp; omega, h.own, fun b hb hn => (Below.heap_alloc _ _ _ (Nat.lt_of_lt_of_le hb h.size)).trans (h.block b hb hn)⟩

theorem Ext.drew {o o' : Nat → Nat} {ids : List Nat} {w w' : World} (h : Ext o o' ids w w') : Ext o o' ids w w'.drew := ⟨h.os, h.tape, h.output, h.size, h.own, h.block⟩
theorem Ext.drewN {o o' : Nat → Nat} {ids : List Nat} {w w' : World} (h : Ext o o' ids w w') (n : Nat) : Ext o o' ids w (w'.drewN n) := ⟨h.os, h.tape, h.output, h.size, h.own, h.block⟩

theorem Ext.ofDrew {o o' : Nat → Nat} {ids : List Nat} {w w' : World} {n : Nat} (h : Ext o o' ids (w.drewN n) w') : Ext o o' ids w w' := ⟨h.os, h.tape, h.output, h.size, h.own, h.block⟩

theorem Ext.setCell {o o' : Nat → Nat} {ids : List Nat} {w w' : World} (h : Ext o o' ids w w') (p : Addr) (u : Value) (hp : p.block < w.heap.size → o p.block ∈ ids) : Ext o o' ids w (w'.setCell p u) :=
  ⟨h.os, h.tape, h.output, by have := h.size; simp [World.setCell]; omega, h.own, fun b hb hn => by
    refine (Below.heap_setCell _ _ _ _ (fun e => ?_)).trans (h.block b hb hn)
    subst e
    exact hn (hp hb)⟩

theorem Ext.grown {o o' : Nat → Nat} {ids : List Nat} {w w' w'' : World} {row : Option Nat} (h : Ext o o' ids w w') (hg : w'.grownBy w'' row) (hr : ∀ k, row = some k → k < w.heap.size → o k ∈ ids) : Ext o o' ids w w'' :=
  ⟨hg.os.trans h.os, hg.tape.trans h.tape, hg.output.trans h.output, Nat.le_trans h.size hg.size, h.own, fun b hb hn => by
    refine (hg.block b (Nat.lt_of_lt_of_le hb h.size) (fun e => ?_)).trans (h.block b hb hn)
    exact hn (hr b e.symm hb)⟩

/-- A block that is new is given to an owner. -/
def give (own : Nat → Nat) (b id : Nat) : Nat → Nat := fun k => if k = b then id else own k
theorem give_same (own : Nat → Nat) (b id : Nat) : give own b id b = id := by simp [give]
theorem give_other {own : Nat → Nat} {b id k : Nat} (h : k ≠ b) : give own b id k = own k := by simp [give, h]
theorem Ext.give {o o' : Nat → Nat} {ids : List Nat} {w w' : World} (h : Ext o o' ids w w') (b id : Nat) (hb : w.heap.size ≤ b) : Ext o (give o' b id) ids w w' :=
  ⟨h.os, h.tape, h.output, h.size, fun k hk => (give_other (by omega)).trans (h.own k hk), h.block⟩

/-- All blocks from B on are given to one owner. -/
def giveFrom (own : Nat → Nat) (B id : Nat) : Nat → Nat := fun k => if B ≤ k then id else own k
theorem Ext.giveFrom {o o' : Nat → Nat} {ids : List Nat} {w w' : World} (h : Ext o o' ids w w') (B id : Nat) (hb : w.heap.size ≤ B) : Ext o (giveFrom o' B id) ids w w' :=
  ⟨h.os, h.tape, h.output, h.size, fun k hk => by unfold Ytlmcfclonncgbaa.giveFrom; rw [if_neg (by omega)]; exact h.own k hk, h.block⟩

theorem Ext.below {o o' : Nat → Nat} {ids : List Nat} {w w' : World} (h : Ext o o' ids w w') (h0 : ∀ b, b < w.heap.size → o b = 0) (hi : 0 ∉ ids) : Below w.heap.size w w' :=
  ⟨h.os, h.tape, h.output, h.size, fun b hb => h.block b hb (by rw [h0 b hb]; exact hi)⟩

theorem Ext.of_below {o : Nat → Nat} {w w' : World} (h : Below w.heap.size w w') (ids : List Nat) : Ext o o ids w w' := ⟨h.os, h.tape, h.output, h.size, fun _ _ => rfl, fun b hb _ => h.block b hb⟩

/-- What is 0's (what came in) is as it was. -/
theorem Ext.came {o o' : Nat → Nat} {ids : List Nat} {w w' : World} {B : Nat} (h : Ext o o' ids w w') (hB : B ≤ w.heap.size) (h0 : ∀ b, b < B → o b = 0) (hi : 0 ∉ ids) : Below B w w' :=
  ⟨h.os, h.tape, h.output, h.size, fun b hb => h.block b (Nat.lt_of_lt_of_le hb hB) (by rw [h0 b hb]; exact hi)⟩
theorem Ext.came_own {o o' : Nat → Nat} {ids : List Nat} {w w' : World} {B : Nat} (h : Ext o o' ids w w') (hB : B ≤ w.heap.size) (h0 : ∀ b, b < B → o b = 0) : ∀ b, b < B → o' b = 0 :=
  fun b hb => (h.own b (Nat.lt_of_lt_of_le hb hB)).trans (h0 b hb)

/-- A block known whole, and whose it is. -/
def Blk (own : Nat → Nat) (id : Nat) (w : World) (b : Nat) (cs : List Value) (t : TypeId) : Prop := w.heap[b]? = some (.cells cs.toArray t (0, 0)) ∧ own b = id

section
variable {own own' : Nat → Nat} {id b : Nat} {ids : List Nat} {w w' : World} {cs : List Value} {t : TypeId}
theorem Blk.lt (h : Blk own id w b cs t) : b < w.heap.size := (Array.getElem?_eq_some_iff.1 h.1).1
theorem Blk.keep (h : Blk own id w b cs t) (x : Ext own own' ids w w') (hi : id ∉ ids) : Blk own' id w' b cs t :=
  ⟨(x.block b h.lt (by rw [h.2]; exact hi)).trans h.1, (x.own b h.lt).trans h.2⟩
theorem Blk.cell (h : Blk own id w b cs t) (i : Nat) {v : Value} (hv : cs[i]? = some v) : w.cell? ⟨b, i, none⟩ = some v := by
  rw [cell_of_row w b i cs.toArray t (0, 0) h.1]; simpa using hv
theorem Blk.free (h : Blk own id w b cs t) (i : Nat) : w.frozen? ⟨b, i, none⟩ = false := by simp [World.frozen?, h.1]
theorem Blk.set (h : Blk own id w b cs t) (i : Nat) (u : Value) : Blk own id (w.setCell ⟨b, i, none⟩ u) b (cs.set i u) t := by
  refine ⟨?_, h.2⟩
  simp [World.setCell, Array.getElem?_modify, h.1]
theorem Blk.far (h : Blk own id w b cs t) {p : Addr} (hp : p.block ≠ b) (u : Value) : Blk own id (w.setCell p u) b cs t :=
  ⟨(Below.heap_setCell w p u b (Ne.symm hp)).trans h.1, h.2⟩
theorem Blk.ne {id' b' : Nat} {cs' : List Value} {t' : TypeId} (h : Blk own id w b cs t) (h' : Blk own id' w b' cs' t') (hi : id ≠ id') : b ≠ b' := by
  intro e; subst e; exact hi (h.2.symm.trans h'.2)
theorem Blk.ne_type {id' b' : Nat} {cs' : List Value} {t' : TypeId} (h : Blk own id w b cs t) (h' : Blk own id' w b' cs' t') (ht : t ≠ t') : b ≠ b' := by
  intro e; subst e
  have := h.1.symm.trans h'.1
  simp at this
  exact ht this.2
theorem Blk.alloc (h : Blk own id w b cs t) (o : Obj) : Blk own id (w.alloc o) b cs t := ⟨(Below.heap_alloc w o b h.lt).trans h.1, h.2⟩
theorem Blk.drew (h : Blk own id w b cs t) : Blk own id w.drew b cs t := h
end

/-- A row that one's own calls have made and let grow, and whose it is. -/
def Row (own : Nat → Nat) (id : Nat) (w : World) (e : TypeId) (size : Nat) (v : Value) (n : Nat) (xs : List Value) : Prop :=
  w.ownsRow 0 e size v n xs ∧ ∀ k, v.ownBlock = some k → own k = id

section
variable {own own' : Nat → Nat} {id : Nat} {ids : List Nat} {w w' : World} {e : TypeId} {size n : Nat} {v : Value} {xs : List Value}
theorem Row.lt (h : Row own id w e size v n xs) : ∀ k, v.ownBlock = some k → k < w.heap.size := fun k hk => (h.1.lt k hk).2
theorem ownsRow_move {base : Nat} (h : w.ownsRow base e size v n xs) (hm : ∀ k, v.ownBlock = some k → w'.heap[k]? = w.heap[k]?) : w'.ownsRow base e size v n xs := by
  refine ⟨h.1, ?_⟩
  rcases h.2 with h2 | ⟨g, cap, cur, hv, hg, hh, r⟩
  · exact Or.inl h2
  · exact Or.inr ⟨g, cap, cur, hv, hg, (hm g (by rw [hv]; rfl)).trans hh, r⟩
theorem Row.keep (h : Row own id w e size v n xs) (x : Ext own own' ids w w') (hi : id ∉ ids) : Row own' id w' e size v n xs :=
  ⟨ownsRow_move h.1 (fun k hk => x.block k (h.lt k hk) (by rw [h.2 k hk]; exact hi)), fun k hk => (x.own k (h.lt k hk)).trans (h.2 k hk)⟩
theorem Row.alloc (h : Row own id w e size v n xs) (o : Obj) : Row own id (w.alloc o) e size v n xs := ⟨h.1.alloc o, h.2⟩
theorem Row.drew (h : Row own id w e size v n xs) : Row own id w.drew e size v n xs := ⟨h.1.drew, h.2⟩
theorem Row.nil (own : Nat → Nat) (id : Nat) (w : World) (e : TypeId) (size : Nat) : Row own id w e size (.slice none 0 0) 0 [] :=
  ⟨w.ownsRow_nil 0 e size, fun k hk => by simp [Value.ownBlock] at hk⟩
theorem Row.far (h : Row own id w e size v n xs) {p : Addr} (hp : v.ownBlock ≠ some p.block) (u : Value) : Row own id (w.setCell p u) e size v n xs :=
  ⟨ownsRow_move h.1 (fun k hk => Below.heap_setCell w p u k (fun e => hp (by rw [hk, e]))), h.2⟩
/-- The block of a row is none of a struct's. -/
theorem Row.ne_blk {id' b : Nat} {cs : List Value} {t : TypeId} (h : Row own id w e size v n xs) (h' : Blk own id' w b cs t) (ht : e ≠ t) : v.ownBlock ≠ some b := by
  intro hk
  rcases h.1.2 with ⟨rfl, _⟩ | ⟨g, cap, cur, rfl, _, hh, _⟩
  · simp [Value.ownBlock] at hk
  · simp [Value.ownBlock] at hk
    subst hk
    have := hh.symm.trans h'.1
    simp at this
    exact ht this.2
theorem Row.ne_id {id' b : Nat} {cs : List Value} {t : TypeId} (h : Row own id w e size v n xs) (h' : Blk own id' w b cs t) (ht : id ≠ id') : v.ownBlock ≠ some b :=
  fun hk => ht ((h.2 b hk).symm.trans h'.2)
/-- The value of a row: a slice of its length. -/
theorem Row.form (h : Row own id w e size v n xs) : ∃ A c, v = .slice A n c ∧ n ≤ c := by
  rcases h.1.2 with ⟨rfl, rfl⟩ | ⟨g, cap, cur, rfl, _, _, hc, _⟩
  · exact ⟨none, 0, rfl, Nat.le_refl _⟩
  · exact ⟨_, cap, rfl, hc⟩
theorem Row.form_pos (h : Row own id w e size v n xs) (hn : 0 < n) : ∃ g c, v = .slice (some ⟨g, 0, none⟩) n c ∧ n ≤ c := by
  rcases h.1.2 with ⟨rfl, rfl⟩ | ⟨g, cap, cur, rfl, _, _, hc, _⟩
  · omega
  · exact ⟨g, cap, rfl, hc⟩
theorem Row.cell {g c : Nat} (h : Row own id w e size (.slice (some ⟨g, 0, none⟩) n c) n xs) (j : Nat) {u : Value} (hu : xs[j]? = some u) : w.cell? ⟨g, j, none⟩ = some u := by
  have := h.1.cells (g := g) rfl j u hu
  have e : (⟨g, 0, none⟩ : Addr).add j = ⟨g, j, none⟩ := by unfold Addr.add; split <;> simp_all
  rwa [e] at this
theorem Row.free {g c : Nat} (h : Row own id w e size (.slice (some ⟨g, 0, none⟩) n c) n xs) (j : Nat) : w.frozen? ⟨g, j, none⟩ = false := by
  rcases h.1.2 with ⟨hv, _⟩ | ⟨g', cap, cur, hv, _, hh, _⟩
  · cases hv
  · simp at hv; obtain ⟨rfl, _⟩ := hv
    simp [World.frozen?, hh]
theorem Row.set {g c : Nat} (h : Row own id w e size (.slice (some ⟨g, 0, none⟩) n c) n xs) (j : Nat) (u : Value) : Row own id (w.setCell ⟨g, j, none⟩ u) e size (.slice (some ⟨g, 0, none⟩) n c) n (xs.set j u) := by
  refine ⟨⟨by simpa using h.1.1, ?_⟩, h.2⟩
  rcases h.1.2 with ⟨hv, _⟩ | ⟨g', cap, cur, hv, h0, hh, h1, h2, h3, h4⟩
  · cases hv
  · simp only [Value.slice.injEq, Option.some.injEq, Addr.mk.injEq, and_true, true_and] at hv
    obtain ⟨rfl, rfl⟩ := hv
    refine Or.inr ⟨g, c, cur.setIfInBounds j u, rfl, Nat.zero_le _, by simp [World.setCell, Array.getElem?_modify, hh], h1, h2, by simpa using h3, ?_⟩
    rw [← h4]
    simp [List.take_set]
/-- A row cut shorter. -/
theorem Row.cut {A : Option Addr} {c m : Nat} (h : Row own id w e size (.slice A n c) n xs) (hm : m ≤ n) : Row own id w e size (.slice A m c) m (xs.take (m * size)) := by
  refine ⟨⟨?_, ?_⟩, fun k hk => h.2 k (by cases A with | none => simp [Value.ownBlock] at hk | some a => simpa [Value.ownBlock] using hk)⟩
  · rw [List.length_take, h.1.1]
    exact Nat.min_eq_left (Nat.mul_le_mul_right _ hm)
  · rcases h.1.2 with ⟨hv, rfl⟩ | ⟨g', cap, cur, hv, h0, hh, h1, h2, h3, h4⟩
    · simp at hv; obtain ⟨rfl, rfl⟩ := hv
      obtain rfl : m = 0 := by omega
      exact Or.inl ⟨rfl, rfl⟩
    · simp only [Value.slice.injEq, true_and] at hv
      obtain ⟨rfl, rfl⟩ := hv
      refine Or.inr ⟨g', c, cur, rfl, Nat.zero_le _, hh, by omega, h2, h3, ?_⟩
      rw [← h4, List.take_take, Nat.min_eq_left (Nat.mul_le_mul_right _ hm)]
end

/-- What a call does: some new map of owners, the frame, and what is said of its end. -/
def Does (own : Nat → Nat) (ids : List Nat) (w : World) (R : (Nat → Nat) → Ending → World → Prop) (e : Ending) (w' : World) : Prop :=
  ∃ own', Ext own own' ids w w' ∧ R own' e w'

theorem cell_one_new' (w : World) (v : Value) (E : TypeId) : ∀ j u, [v][j]? = some u → (w.alloc (.cells #[v] E)).cell? ((⟨w.heap.size, 0, none⟩ : Addr).add j) = some u := by
  intro j u hj
  match j, hj with
  | 0, hj => simp at hj; subst hj; simp [Addr.add]
theorem one_cell' (v : Value) (h : v.oneCell' = true) : ∀ u ∈ [v], u.oneCell' = true := by
  intro u hu; simp at hu; subst hu; exact h

/-- 'append(xs, y)' on a row of one's own, y a value of any kind: behind it the row is one longer, wherever it now lies; no other block of the owner's has turned. W: the world ahead of the one-element block that the translation lays for y. -/
theorem run_append_row {P : Program} (t ty e : TypeId) (z : Value) (size bytes : Nat)
    (ht : P.underlying t = some (.slice e)) (hinfo : (P.info? e).map (fun i => (i.zero, i.size, i.bytes)) = some (some z, size, bytes)) (hz : z.cells.size = size) (hs0 : 0 < size) (hb0 : 0 < bytes)
    {own : Nat → Nat} {id n : Nat} {W : World} {v : Value} {xs ys : List Value} (hys : ys.length = size) (h1 : ∀ u ∈ ys, u.oneCell' = true)
    (HO : Row own id W e size v n xs) (hl : (n + 1) * bytes ≤ 140737488355328) :
    ∃ g cap w1 own1, (Builtin.append_ #[t, t] ty #[v, .slice (some ⟨W.heap.size, 0, none⟩) 1 1]).run P (W.alloc (.cells ys.toArray e)) = .ok (.slice (some ⟨g, 0, none⟩) (n + 1) cap) w1 ∧
      Row own1 id w1 e size (.slice (some ⟨g, 0, none⟩) (n + 1) cap) (n + 1) (xs ++ ys) ∧ Ext own own1 [id] W w1 ∧ (∀ b cs t', Blk own id W b cs t' → e ≠ t' → Blk own1 id w1 b cs t') ∧
      (∀ id' e' size' v' n' xs', Row own id' W e' size' v' n' xs' → (e' ≠ e ∨ id' ≠ id) → Row own1 id' w1 e' size' v' n' xs') := by
  obtain ⟨i0, hi, hzz⟩ := Option.map_eq_some_iff.1 hinfo
  simp only [Prod.mk.injEq] at hzz
  obtain ⟨hz0, hz1, hz2⟩ := hzz
  have hlen : n + 1 ≤ 140737488355328 := Nat.le_trans (Nat.le_mul_of_pos_right _ hb0) hl
  obtain ⟨v1, w1, hr, hown, hg, _, hat⟩ := run_append_own_at (P := P) (W.alloc (.cells ys.toArray e)) 0 t ty e i0 z size bytes ht hi hz0 hz1 hz2 hz hs0 v n xs (HO.1.alloc _) ⟨W.heap.size, 0, none⟩ 1 1 ys (by rw [hys]; simp)
    (by simpa using World.news_of_block (cs := ys.toArray) (t := e) (fr := (0, 0)) (heap_alloc_new W (.cells ys.toArray e))) h1 (by simp only [maxLen]; omega) hl (by simp)
  obtain ⟨g, cap, rfl⟩ : ∃ g cap, v1 = .slice (some ⟨g, 0, none⟩) (n + 1) cap := by
    rcases hown.2 with ⟨_, h⟩ | ⟨g, cap, _, h, _⟩
    · omega
    · exact ⟨g, cap, h⟩
  have hx0 : Ext own own [id] W w1 := ((Ext.refl own [id] W).alloc _).grown hg (fun k hk hlt => by rw [HO.2 k hk]; simp)
  refine ⟨g, cap, w1, giveFrom own W.heap.size id, hr, ⟨hown, ?_⟩, hx0.giveFrom _ id (Nat.le_refl _), ?_, ?_⟩
  · intro k hk
    unfold giveFrom
    by_cases hlt : W.heap.size ≤ k
    · rw [if_pos hlt]
    · rw [if_neg hlt]
      rcases hat with hat | hat
      · exact HO.2 k (hat.symm.trans hk)
      · rw [hat] at hk; simp at hk; omega
  · intro b cs t' hb hne
    refine ⟨(hg.block b (by have := hb.lt; simp; omega) (fun e => HO.ne_blk hb hne e.symm)).trans ((Below.heap_alloc _ _ _ hb.lt).trans hb.1), ?_⟩
    unfold giveFrom
    rw [if_neg (by have := hb.lt; omega)]
    exact hb.2
  · intro id' e' size' v' n' xs' hr' hne
    refine ⟨ownsRow_move hr'.1 (fun k hk => ?_), fun k hk => ?_⟩
    · have hlt := hr'.lt k hk
      refine (hg.block k (by simp; omega) (fun e => ?_)).trans (Below.heap_alloc _ _ _ hlt)
      rcases hne with hne | hne
      · obtain ⟨_, _, cur, _, _, hh, _⟩ := HO.1.2.resolve_left (fun h => by rw [h.1] at e; simp [Value.ownBlock] at e)
        obtain ⟨_, _, cur', _, _, hh', _⟩ := hr'.1.2.resolve_left (fun h => by rw [h.1] at hk; simp [Value.ownBlock] at hk)
        simp_all [Value.ownBlock]
      · exact hne ((hr'.2 k hk).symm.trans (HO.2 k e.symm))
    · unfold giveFrom
      rw [if_neg (by have := hr'.lt k hk; omega)]
      exact hr'.2 k hk

theorem wpList_append_row {P : Program} {ops : Array Oper} {rest : List Oper} {o : Oper} {a : Act} {Q : Exit → Act → World → Prop} (hgd : o.guard = none) (s x : Operand) (t : TypeId)
    (ho : o.op = .call { callee := .builtin .append, args := #[s, x], argTypes := #[t, t] }) (e : TypeId) (z : Value) (size bytes : Nat)
    (ht : P.underlying t = some (.slice e)) (hinfo : (P.info? e).map (fun i => (i.zero, i.size, i.bytes)) = some (some z, size, bytes)) (hz : z.cells.size = size) (hs0 : 0 < size) (hb0 : 0 < bytes)
    {own : Nat → Nat} {id n : Nat} {W : World} {v : Value} {xs ys : List Value} (hs : a.eval s = v) (hx : a.eval x = .slice (some ⟨W.heap.size, 0, none⟩) 1 1) (hys : ys.length = size) (h1 : ∀ u ∈ ys, u.oneCell' = true)
    (HO : Row own id W e size v n xs) (hl : (n + 1) * bytes ≤ 140737488355328)
    (h : ∀ g cap w1 own1, Row own1 id w1 e size (.slice (some ⟨g, 0, none⟩) (n + 1) cap) (n + 1) (xs ++ ys) → Ext own own1 [id] W w1 → (∀ b cs t', Blk own id W b cs t' → e ≠ t' → Blk own1 id w1 b cs t') →
      (∀ id' e' size' v' n' xs', Row own id' W e' size' v' n' xs' → (e' ≠ e ∨ id' ≠ id) → Row own1 id' w1 e' size' v' n' xs') → wpList P ops Q rest (a.put o.dst (.slice (some ⟨g, 0, none⟩) (n + 1) cap)) w1) :
    wpList P ops Q (o :: rest) a (W.alloc (.cells ys.toArray e)) := by
  refine wpList_plain hgd fun K hK => ?_
  obtain ⟨g, cap, w1, own1, hr, h2, h3, h4, h5⟩ := run_append_row (P := P) t o.type e z size bytes ht hinfo hz hs0 hb0 hys h1 HO hl
  unfold Oper.wp execOp
  simp only [ho, resolve, invoke, builtin, Sem.run_bind, Sem.run_pure, Result.andThen_ok, List.map_toArray, List.map_cons, List.map_nil, hs, hx, hr]
  exact hK _ _ (h g cap w1 own1 h2 h3 h4 h5)

end Go.Proofs.Ytlmcfclonncgbaa
/- Bit operations on 64-bit words, said as sums and remainders; a cell's word: its tag and its value. -/
namespace Go.Proofs.Ytlmcfclonncgbaa
open Go.RowKit

theorem wrap_u64 (n : Int) : IntKind.u64.wrap n = n % 18446744073709551616 := by simp [IntKind.wrap, IntKind.bits, IntKind.signed]
theorem wraps_u64 (n : Int) (h0 : 0 ≤ n) (h1 : n < 2 ^ 64) : IntKind.u64.wrap n = n := by rw [wrap_u64]; omega
theorem wraps_u64' (n : Int) (h0 : 0 ≤ n) (h1 : n < 18446744073709551616) : IntKind.u64.wrap n = n := by rw [wrap_u64]; omega
theorem wrap64_in (n : Int) (h0 : -9223372036854775808 ≤ n) (h1 : n < 9223372036854775808) : wrap64 n = n := by unfold wrap64; omega
theorem and7 (x : Int) (h0 : 0 ≤ x) (h1 : x < 18446744073709551616) : bits .and .u64 x 7 = x % 8 :=
  bits_mask .u64 64 (by decide) wraps_u64 3 (by decide) x h0 h1
/-- .. of any number: the walk's own term for a tag. -/
theorem and7' (x : Int) : bits .and .u64 x 7 = x % 8 := by
  have e : bits .and .u64 x 7 = bits .and .u64 (x % 18446744073709551616) 7 := by
    have h : BitVec.ofInt 64 x = BitVec.ofInt 64 (x % 18446744073709551616) := by
      apply BitVec.eq_of_toNat_eq
      rw [BitVec.toNat_ofInt, BitVec.toNat_ofInt]
      congr 1
      omega
    unfold bits
    simp only [IntKind.bits]
    rw [h]
  rw [e, and7 _ (by omega) (by omega)]
  omega
theorem and61 (x : Int) (h0 : 0 ≤ x) (h1 : x < 18446744073709551616) : bits .and .u64 x 2305843009213693951 = x % 2305843009213693952 :=
  bits_mask .u64 64 (by decide) wraps_u64 61 (by decide) x h0 h1
theorem or3 (x y : Int) (hx : 0 ≤ x) (hx1 : x < 18446744073709551616) (h8 : x % 8 = 0) (h0 : 0 ≤ y) (h1 : y < 8) : bits .or .u64 x y = x + y :=
  bits_join .u64 64 (by decide) wraps_u64 3 x y hx h8 hx1 h0 h1 (by omega)
theorem or8 (x y : Int) (hx : 0 ≤ x) (hx1 : x < 18446744073709551616) (h8 : x % 256 = 0) (h0 : 0 ≤ y) (h1 : y < 256) : bits .or .u64 x y = x + y :=
  bits_join .u64 64 (by decide) wraps_u64 8 x y hx h8 hx1 h0 h1 (by omega)
theorem wf_i64 {x : Int} (h : (Lit.int .i64 x).wf = true) : -9223372036854775808 ≤ x ∧ x ≤ 9223372036854775807 := by
  simpa [Lit.wf, IntKind.min, IntKind.max, IntKind.bits, IntKind.signed] using h
theorem wf_u64 {x : Int} (h : (Lit.int .u64 x).wf = true) : 0 ≤ x ∧ x ≤ 18446744073709551615 := by
  simpa [Lit.wf, IntKind.min, IntKind.max, IntKind.bits, IntKind.signed] using h
/-- A number's remainder by a number above 0, Go's, of one that is 0 or more. -/
theorem tmod_pos (x : Int) (m : Int) (h : 0 ≤ x) : Int.tmod x m = x % m := Int.tmod_eq_emod_of_nonneg h
theorem tdiv_pos (x : Int) (m : Int) (h : 0 ≤ x) : Int.tdiv x m = x / m := Int.tdiv_eq_ediv_of_nonneg h

end Go.Proofs.Ytlmcfclonncgbaa
/- Small additions on frames: draws ahead of a frame are none; a frame as one of owners. -/
namespace Go.Proofs.Ytlmcfclonncgbaa
open Go.RowKit

theorem below_ofDrew {B n : Nat} {w w' : World} (h : Below B (w.drewN n) w') : Below B w w' := ⟨h.os, h.tape, h.output, h.size, h.block⟩
theorem below_drewN {B n : Nat} {w w' : World} (h : Below B w w') : Below B w (w'.drewN n) := ⟨h.os, h.tape, h.output, h.size, h.block⟩
/-- A call that leaves all that was there: as a frame of owners. -/
theorem Ext.belowStep {o o' : Nat → Nat} {ids : List Nat} {w w1 w2 : World} (h : Ext o o' ids w w1) (hb : Below w1.heap.size w1 w2) : Ext o o' ids w w2 := h.trans (Ext.of_below hb ids)

/-- 'int(uint64(a) % k)': a number from 0 on, below k. -/
theorem mod_nat (a k : Int) (hk : 0 < k) (hk2 : k ≤ 4611686018427387904) : ∃ m : Nat, wrap64 ((IntKind.u64.wrap a).tmod k) = m ∧ (m : Int) < k := by
  have h0 : 0 ≤ IntKind.u64.wrap a := by rw [wrap_u64]; omega
  rw [tmod_pos _ _ h0]
  have h1 := Int.emod_nonneg (IntKind.u64.wrap a) (show k ≠ 0 by omega)
  have h2 := Int.emod_lt_of_pos (IntKind.u64.wrap a) hk
  rw [wrap64_in _ (by omega) (by omega)]
  exact ⟨(IntKind.u64.wrap a % k).toNat, by omega, by omega⟩
/-- At the start everything is what came in. -/
def own0 : Nat → Nat := fun _ => 0
theorem Ext.done {o : Nat → Nat} {ids : List Nat} {w w' : World} (h : Ext own0 o ids w w') (hi : 0 ∉ ids) : Below w.heap.size w w' := h.below (fun _ _ => rfl) hi


/-- 'append(xs, y)' on a row of one's own that was met in W0, in a later world W: y's box lies where it will. -/
theorem run_append_later {P : Program} (t ty e : TypeId) (z : Value) (size bytes : Nat)
    (ht : P.underlying t = some (.slice e)) (hinfo : (P.info? e).map (fun i => (i.zero, i.size, i.bytes)) = some (some z, size, bytes)) (hz : z.cells.size = size) (hs0 : 0 < size) (hb0 : 0 < bytes)
    {own : Nat → Nat} {id n : Nat} {W0 W : World} {v : Value} {xs ys : List Value} (bx : Addr) (hys : ys.length = size) (h1 : ∀ u ∈ ys, u.oneCell' = true)
    (HO : Row own id W0 e size v n xs) (HB : Below W0.heap.size W0 W) (hnews : ∀ j u, ys[j]? = some u → W.cell? (bx.add j) = some u) (hl : (n + 1) * bytes ≤ 140737488355328) :
    ∃ g cap w1 own1, (Builtin.append_ #[t, t] ty #[v, .slice (some bx) 1 1]).run P W = .ok (.slice (some ⟨g, 0, none⟩) (n + 1) cap) w1 ∧
      Row own1 id w1 e size (.slice (some ⟨g, 0, none⟩) (n + 1) cap) (n + 1) (xs ++ ys) ∧ Ext own own1 [id] W0 w1 ∧ (∀ b cs t', Blk own id W0 b cs t' → e ≠ t' → Blk own1 id w1 b cs t') ∧
      (∀ id' e' size' v' n' xs', Row own id' W0 e' size' v' n' xs' → (e' ≠ e ∨ id' ≠ id) → Row own1 id' w1 e' size' v' n' xs') ∧
      (W.heap.size ≤ w1.heap.size ∧ ∀ b, W0.heap.size ≤ b → b < W.heap.size → w1.heap[b]? = W.heap[b]?) := by
  obtain ⟨i0, hi, hzz⟩ := Option.map_eq_some_iff.1 hinfo
  simp only [Prod.mk.injEq] at hzz
  obtain ⟨hz0, hz1, hz2⟩ := hzz
  have hlen : n + 1 ≤ 140737488355328 := Nat.le_trans (Nat.le_mul_of_pos_right _ hb0) hl
  have HW : W.ownsRow 0 e size v n xs := ownsRow_move HO.1 (fun k hk => HB.block k (HO.lt k hk))
  obtain ⟨v1, w1, hr, hown, hg, _, hat⟩ := run_append_own_at (P := P) W 0 t ty e i0 z size bytes ht hi hz0 hz1 hz2 hz hs0 v n xs HW bx 1 1 ys (by rw [hys]; simp) hnews h1 (by simp only [maxLen]; omega) hl (by simp)
  obtain ⟨g, cap, rfl⟩ : ∃ g cap, v1 = .slice (some ⟨g, 0, none⟩) (n + 1) cap := by
    rcases hown.2 with ⟨_, h⟩ | ⟨g, cap, _, h, _⟩
    · omega
    · exact ⟨g, cap, h⟩
  have hsz := HB.size
  have hx0 : Ext own own [id] W0 w1 := (Ext.of_below (o := own) HB [id]).grown hg (fun k hk hlt => by rw [HO.2 k hk]; simp)
  refine ⟨g, cap, w1, giveFrom own W0.heap.size id, hr, ⟨hown, ?_⟩, hx0.giveFrom _ id (Nat.le_refl _), ?_, ?_, hg.size, ?_⟩
  · intro k hk
    unfold giveFrom
    by_cases hlt : W0.heap.size ≤ k
    · rw [if_pos hlt]
    · rw [if_neg hlt]
      rcases hat with hat | hat
      · exact HO.2 k (hat.symm.trans hk)
      · rw [hat] at hk; simp at hk; omega
  · intro b cs t' hb hne
    have hlt := hb.lt
    refine ⟨(hg.block b (by omega) (fun e => HO.ne_blk hb hne e.symm)).trans ((HB.block b hlt).trans hb.1), ?_⟩
    unfold giveFrom
    rw [if_neg (by omega)]
    exact hb.2
  · intro id' e' size' v' n' xs' hr' hne
    refine ⟨ownsRow_move hr'.1 (fun k hk => ?_), fun k hk => ?_⟩
    · have hlt := hr'.lt k hk
      refine (hg.block k (by omega) (fun e => ?_)).trans (HB.block k hlt)
      rcases hne with hne | hne
      · obtain ⟨_, _, cur, _, _, hh, _⟩ := HO.1.2.resolve_left (fun h => by rw [h.1] at e; simp [Value.ownBlock] at e)
        obtain ⟨_, _, cur', _, _, hh', _⟩ := hr'.1.2.resolve_left (fun h => by rw [h.1] at hk; simp [Value.ownBlock] at hk)
        simp_all [Value.ownBlock]
      · exact hne ((hr'.2 k hk).symm.trans (HO.2 k e.symm))
    · unfold giveFrom
      rw [if_neg (by have := hr'.lt k hk; omega)]
      exact hr'.2 k hk
  · intro b hb0' hb1
    exact hg.block b hb1 (fun e => by have := HO.lt b e.symm; omega)

/-- The same as one step of a region that draws its order. -/
theorem step_append_later {P : Program} {ops : Array Oper} {o : Oper} {a : Act} {K : Act → World → Prop} {Q : Exit → Act → World → Prop} {E : Prop} (hgd : o.guard = none) (s x : Operand) (t : TypeId)
    (ho : o.op = .call { callee := .builtin .append, args := #[s, x], argTypes := #[t, t] }) (e : TypeId) (z : Value) (size bytes : Nat)
    (ht : P.underlying t = some (.slice e)) (hinfo : (P.info? e).map (fun i => (i.zero, i.size, i.bytes)) = some (some z, size, bytes)) (hz : z.cells.size = size) (hs0 : 0 < size) (hb0 : 0 < bytes)
    {own : Nat → Nat} {id n : Nat} {W0 W : World} {v : Value} {xs ys : List Value} (hs : a.eval s = v) (bx : Addr) (hx : a.eval x = .slice (some bx) 1 1) (hys : ys.length = size) (h1 : ∀ u ∈ ys, u.oneCell' = true)
    (HO : Row own id W0 e size v n xs) (HB : Below W0.heap.size W0 W) (hnews : ∀ j u, ys[j]? = some u → W.cell? (bx.add j) = some u) (hl : (n + 1) * bytes ≤ 140737488355328)
    (h : ∀ g cap w1 own1, Row own1 id w1 e size (.slice (some ⟨g, 0, none⟩) (n + 1) cap) (n + 1) (xs ++ ys) → Ext own own1 [id] W0 w1 → (∀ b cs t', Blk own id W0 b cs t' → e ≠ t' → Blk own1 id w1 b cs t') →
      (∀ id' e' size' v' n' xs', Row own id' W0 e' size' v' n' xs' → (e' ≠ e ∨ id' ≠ id) → Row own1 id' w1 e' size' v' n' xs') → (W.heap.size ≤ w1.heap.size ∧ ∀ b, W0.heap.size ≤ b → b < W.heap.size → w1.heap[b]? = W.heap[b]?) →
      K (a.put o.dst (.slice (some ⟨g, 0, none⟩) (n + 1) cap)) w1) :
    if Region.wanted o (yielded ops a.tmps) = true then Oper.wp P o a W K Q else E := by
  have hw : Region.wanted o (yielded ops a.tmps) = true := by simp [Region.wanted, hgd]
  rw [if_pos hw]
  obtain ⟨g, cap, w1, own1, hr, h2, h3, h4, h5, h6⟩ := run_append_later (P := P) t o.type e z size bytes ht hinfo hz hs0 hb0 bx hys h1 HO HB hnews hl
  unfold Oper.wp execOp
  simp only [ho, resolve, invoke, builtin, Sem.run_bind, Sem.run_pure, Result.andThen_ok, List.map_toArray, List.map_cons, List.map_nil, hs, hx, hr]
  exact h g cap w1 own1 h2 h3 h4 h5 h6

end Go.Proofs.Ytlmcfclonncgbaa
/- Terms as trees: what may be a term, how many nodes, the same. No program in sight. -/
namespace Go.Proofs.Ytlmcfclonncgbaa
set_option linter.unusedVariables false

/-- A term as it lies in memory: all fields. -/
inductive Tm where
  | mk (kind : Int) (name : ByteArray) (int re im : Int) (args : List Tm)
namespace Tm
def kind : Tm → Int | .mk k _ _ _ _ _ => k
def name : Tm → ByteArray | .mk _ s _ _ _ _ => s
def int : Tm → Int | .mk _ _ n _ _ _ => n
def re : Tm → Int | .mk _ _ _ r _ _ => r
def im : Tm → Int | .mk _ _ _ _ i _ => i
def args : Tm → List Tm | .mk _ _ _ _ _ a => a
end Tm

/-- A term that may be, without what has no meaning. -/
inductive CT where
  | var (n : Int)
  | atom (s : ByteArray)
  | int (n : Int)
  | cpx (re im : Int)
  | comp (s : ByteArray) (args : List CT)

mutual
def cl : Tm → CT
  | .mk k s n re im args => if k = 1 then .var n else if k = 2 then .atom s else if k = 3 then .int n else if k = 4 then .cpx re im else .comp s (cls args)
def cls : List Tm → List CT
  | [] => []
  | t :: ts => cl t :: cls ts
end
theorem cls_map (l : List Tm) : cls l = l.map cl := by
  induction l with
  | nil => rfl
  | cons a l ih => simp [cls, ih]

mutual
/-- Plain: as it is built anew. -/
def un : CT → Tm
  | .var n => .mk 1 ByteArray.empty n 0 0 []
  | .atom s => .mk 2 s 0 0 0 []
  | .int n => .mk 3 ByteArray.empty n 0 0 []
  | .cpx re im => .mk 4 ByteArray.empty 0 re im []
  | .comp s args => .mk 5 s 0 0 0 (uns args)
def uns : List CT → List Tm
  | [] => []
  | t :: ts => un t :: uns ts
end
theorem uns_map (l : List CT) : uns l = l.map un := by
  induction l with
  | nil => rfl
  | cons a l ih => simp [uns, ih]
mutual
theorem cl_un : ∀ t : CT, cl (un t) = t
  | .var n => rfl
  | .atom s => rfl
  | .int n => rfl
  | .cpx re im => rfl
  | .comp s args => by
    show CT.comp s (cls (uns args)) = _
    rw [cls_uns args]
theorem cls_uns : ∀ l : List CT, cls (uns l) = l
  | [] => rfl
  | t :: ts => by simp only [uns, cls, cl_un t, cls_uns ts]
end

/-- What is wrong with a node, its arguments aside. -/
def oneE : Tm → Int
  | .mk k s n _ _ args =>
    if k < 1 ∨ 5 < k ∨ (k = 1 ∧ n < 0) ∨ (k = 5 ∧ args.length = 0) then 1
    else if ((k = 2 ∨ k = 5) ∧ 200 < s.size) ∨ (k = 5 ∧ 20 < args.length) then 3 else 0
mutual
/-- May: nodes so far, what is wrong. -/
def mayF : Tm → Nat → Nat × Int → Nat × Int
  | .mk k s n re im args, d, st =>
    if st.2 ≠ 0 then st
    else if 2000 < st.1 + 1 ∨ 500 < d then (st.1 + 1, 3)
    else if oneE (.mk k s n re im args) ≠ 0 then (st.1 + 1, oneE (.mk k s n re im args))
    else if k = 5 then mayFs args (d + 1) (st.1 + 1, 0) else (st.1 + 1, 0)
def mayFs : List Tm → Nat → Nat × Int → Nat × Int
  | [], _, st => st
  | t :: ts, d, st => mayFs ts d (mayF t d st)
end
def mayE (t : Tm) : Int := (mayF t 1 (0, 0)).2
def nodesN (t : Tm) : Nat := if mayE t = 0 then (mayF t 1 (0, 0)).1 else 0

mutual
def nodes : CT → Nat
  | .var _ => 1
  | .atom _ => 1
  | .int _ => 1
  | .cpx _ _ => 1
  | .comp _ args => nodesL args + 1
def nodesL : List CT → Nat
  | [] => 0
  | t :: ts => nodes t + nodesL ts
end
mutual
def depth : CT → Nat
  | .var _ => 1
  | .atom _ => 1
  | .int _ => 1
  | .cpx _ _ => 1
  | .comp _ args => depthL args + 1
def depthL : List CT → Nat
  | [] => 0
  | t :: ts => max (depth t) (depthL ts)
end
mutual
/-- Each node is as it may be. -/
def fine : CT → Prop
  | .var n => 0 ≤ n
  | .atom s => s.size ≤ 200
  | .int _ => True
  | .cpx _ _ => True
  | .comp s args => s.size ≤ 200 ∧ 1 ≤ args.length ∧ args.length ≤ 20 ∧ fines args
def fines : List CT → Prop
  | [] => True
  | t :: ts => fine t ∧ fines ts
end
/-- The kinds are 1 to 5, as far as a term is gone through. -/
inductive Kinds : Tm → Prop
  | leaf {k s n re im args} (h1 : 1 ≤ k) (h4 : k ≤ 4) : Kinds (.mk k s n re im args)
  | comp {s n re im args} (h : ∀ a ∈ args, Kinds a) : Kinds (.mk 5 s n re im args)

theorem mayF_err (t : Tm) (d n : Nat) (e : Int) (h : e ≠ 0) : mayF t d (n, e) = (n, e) := by
  cases t; unfold mayF; rw [if_pos h]
theorem mayFs_err : ∀ (l : List Tm) (d n : Nat) (e : Int), e ≠ 0 → mayFs l d (n, e) = (n, e)
  | [], _, _, _, _ => rfl
  | t :: ts, d, n, e, h => by unfold mayFs; rw [mayF_err t d n e h]; exact mayFs_err ts d n e h
theorem cls_length (l : List Tm) : (cls l).length = l.length := by rw [cls_map]; simp
theorem uns_length (l : List CT) : (uns l).length = l.length := by rw [uns_map]; simp

def Ok (d n : Nat) (t : CT) : Prop := fine t ∧ d + depth t ≤ 501 ∧ n + nodes t ≤ 2000
def Oks (d n : Nat) (l : List CT) : Prop := fines l ∧ (l ≠ [] → d + depthL l ≤ 501) ∧ n + nodesL l ≤ 2000

mutual
theorem depth_pos : ∀ t : CT, 1 ≤ depth t
  | .var _ => Nat.le_refl _
  | .atom _ => Nat.le_refl _
  | .int _ => Nat.le_refl _
  | .cpx _ _ => Nat.le_refl _
  | .comp _ args => by unfold depth; omega
theorem nodes_pos : ∀ t : CT, 1 ≤ nodes t
  | .var _ => Nat.le_refl _
  | .atom _ => Nat.le_refl _
  | .int _ => Nat.le_refl _
  | .cpx _ _ => Nat.le_refl _
  | .comp _ args => by unfold nodes; omega
end

theorem oneE_zero {k : Int} {s : ByteArray} {i re im : Int} {args : List Tm} : oneE (.mk k s i re im args) = 0 ↔ (1 ≤ k ∧ k ≤ 5 ∧ (k = 1 → 0 ≤ i) ∧ (k = 2 → s.size ≤ 200) ∧ (k = 5 → s.size ≤ 200 ∧ 1 ≤ args.length ∧ args.length ≤ 20)) := by
  unfold oneE
  dsimp only
  split
  · simp; omega
  · split
    · simp; omega
    · simp; omega

theorem cl_cases (k : Int) (s : ByteArray) (i re im : Int) (args : List Tm) (h1 : 1 ≤ k) (h5 : k ≤ 5) :
    (k = 1 ∧ cl (.mk k s i re im args) = .var i) ∨ (k = 2 ∧ cl (.mk k s i re im args) = .atom s) ∨ (k = 3 ∧ cl (.mk k s i re im args) = .int i) ∨ (k = 4 ∧ cl (.mk k s i re im args) = .cpx re im) ∨ (k = 5 ∧ cl (.mk k s i re im args) = .comp s (cls args)) := by
  by_cases k1 : k = 1
  · subst k1; exact Or.inl ⟨rfl, rfl⟩
  · by_cases k2 : k = 2
    · subst k2; exact Or.inr (Or.inl ⟨rfl, rfl⟩)
    · by_cases k3 : k = 3
      · subst k3; exact Or.inr (Or.inr (Or.inl ⟨rfl, rfl⟩))
      · by_cases k4 : k = 4
        · subst k4; exact Or.inr (Or.inr (Or.inr (Or.inl ⟨rfl, rfl⟩)))
        · obtain rfl : k = 5 := by omega
          exact Or.inr (Or.inr (Or.inr (Or.inr ⟨rfl, rfl⟩)))

mutual
/-- A term that may be: its nodes have been counted. -/
theorem mayF_ok : ∀ (t : Tm) (d n n' : Nat), mayF t d (n, 0) = (n', 0) → Kinds t ∧ Ok d n (cl t) ∧ n' = n + nodes (cl t)
  | .mk k s i re im args, d, n, n', h => by
    unfold mayF at h
    simp only [ne_eq, not_true_eq_false, if_false] at h
    split at h
    · simp at h
    · rename_i h1
      split at h
      · rename_i h2; simp only [Prod.mk.injEq] at h; exact absurd h.2 h2
      · rename_i h2
        have h2' : oneE (.mk k s i re im args) = 0 := Classical.not_not.1 h2
        obtain ⟨g1, g2, g3, g4, g5⟩ := oneE_zero.1 h2'
        split at h
        · rename_i h5
          subst h5
          obtain ⟨a, b, c⟩ := mayFs_ok args (d + 1) (n + 1) n' (by omega) h
          have hc : cl (.mk 5 s i re im args) = .comp s (cls args) := rfl
          have hl := cls_length args
          rw [hc]
          obtain ⟨b1, b2, b3⟩ := b
          unfold Ok
          simp only [fine, depth, nodes]
          have g5 := g5 rfl
          have hne : cls args ≠ [] := by intro e; rw [e] at hl; simp at hl; omega
          have := b2 hne
          exact ⟨.comp a, ⟨⟨by omega, by omega, by omega, b1⟩, by omega, by omega⟩, by omega⟩
        · rename_i h5
          simp only [Prod.mk.injEq, and_true] at h
          subst h
          refine ⟨.leaf (by omega) (by omega), ?_⟩
          unfold Ok
          rcases cl_cases k s i re im args g1 g2 with ⟨hk, hc⟩ | ⟨hk, hc⟩ | ⟨hk, hc⟩ | ⟨hk, hc⟩ | ⟨hk, hc⟩ <;> rw [hc] <;> simp only [fine, depth, nodes] <;> (try simp only [and_true, true_and]) <;> omega
theorem mayFs_ok : ∀ (l : List Tm) (d n n' : Nat), n ≤ 2000 → mayFs l d (n, 0) = (n', 0) → (∀ a ∈ l, Kinds a) ∧ Oks d n (cls l) ∧ n' = n + nodesL (cls l)
  | [], d, n, n', hn, h => by
    unfold mayFs at h
    simp only [Prod.mk.injEq, and_true] at h
    refine ⟨by simp, ⟨trivial, by simp [cls], ?_⟩, ?_⟩
    · simp only [cls, nodesL]; omega
    · simp only [cls, nodesL]; omega
  | t :: ts, d, n, n', hn, h => by
    unfold mayFs at h
    obtain ⟨n1, e1⟩ : ∃ p, mayF t d (n, 0) = p := ⟨_, rfl⟩
    rw [e1] at h
    obtain ⟨n1, e⟩ := n1
    by_cases he : e = 0
    · subst he
      obtain ⟨a1, ⟨a2, a3, a4⟩, a5⟩ := mayF_ok t d n n1 e1
      obtain ⟨b1, ⟨b2, b3, b4⟩, b5⟩ := mayFs_ok ts d n1 n' (by omega) h
      refine ⟨fun a ha => ?_, ⟨⟨a2, b2⟩, fun _ => ?_, ?_⟩, ?_⟩
      · rcases List.mem_cons.1 ha with rfl | ha
        · exact a1
        · exact b1 a ha
      · simp only [cls, depthL]
        by_cases hts : cls ts = []
        · rw [hts]; simp only [depthL]; omega
        · have := b3 hts; omega
      · simp only [cls, nodesL]; omega
      · simp only [cls, nodesL]; omega
    · rw [mayFs_err ts d n1 e he] at h
      simp only [Prod.mk.injEq] at h
      exact absurd h.2 he
end
mutual
theorem mayF_of : ∀ (t : Tm) (d n : Nat), Kinds t → Ok d n (cl t) → mayF t d (n, 0) = (n + nodes (cl t), 0)
  | .mk k s i re im args, d, n, hk, ⟨h1, h2, h3⟩ => by
    have hp := depth_pos (cl (.mk k s i re im args))
    have hn := nodes_pos (cl (.mk k s i re im args))
    unfold mayF
    simp only [ne_eq, not_true_eq_false, if_false]
    rw [if_neg (by omega)]
    have hr : 1 ≤ k ∧ k ≤ 5 := by
      cases hk with
      | leaf a b => omega
      | comp _ => omega
    have h0 : oneE (.mk k s i re im args) = 0 := by
      rw [oneE_zero]
      rcases cl_cases k s i re im args hr.1 hr.2 with ⟨hk, hc⟩ | ⟨hk, hc⟩ | ⟨hk, hc⟩ | ⟨hk, hc⟩ | ⟨hk, hc⟩ <;> rw [hc] at h1 <;> simp only [fine] at h1
      · omega
      · omega
      · omega
      · omega
      · have := cls_length args; omega
    rw [if_neg (by simp [h0])]
    by_cases h5 : k = 5
    · subst h5
      rw [if_pos rfl]
      have hc : cl (.mk 5 s i re im args) = .comp s (cls args) := rfl
      rw [hc] at h1 h2 h3 ⊢
      simp only [fine, depth, nodes] at h1 h2 h3 ⊢
      have ha : ∀ a ∈ args, Kinds a := by
        cases hk with
        | leaf a b => omega
        | comp h => exact h
      rw [mayFs_of args (d + 1) (n + 1) ha ⟨h1.2.2.2, fun _ => by omega, by omega⟩]
      congr 1
      omega
    · rw [if_neg h5]
      rcases cl_cases k s i re im args hr.1 hr.2 with ⟨hk, hc⟩ | ⟨hk, hc⟩ | ⟨hk, hc⟩ | ⟨hk, hc⟩ | ⟨hk, hc⟩
      · rw [hc]; simp only [nodes]
      · rw [hc]; simp only [nodes]
      · rw [hc]; simp only [nodes]
      · rw [hc]; simp only [nodes]
      · omega
theorem mayFs_of : ∀ (l : List Tm) (d n : Nat), (∀ a ∈ l, Kinds a) → Oks d n (cls l) → mayFs l d (n, 0) = (n + nodesL (cls l), 0)
  | [], d, n, _, _ => rfl
  | t :: ts, d, n, hk, ⟨h1, h2, h3⟩ => by
    have h2 := h2 (by simp [cls])
    simp only [cls, fines, depthL, nodesL] at h1 h2 h3 ⊢
    unfold mayFs
    rw [mayF_of t d n (hk t (by simp)) ⟨h1.1, by omega, by omega⟩, mayFs_of ts d (n + nodes (cl t)) (fun a ha => hk a (by simp [ha])) ⟨h1.2, fun _ => by omega, by omega⟩]
    congr 1
    omega
end
mutual
theorem kinds_un : ∀ t : CT, Kinds (un t)
  | .var n => .leaf (by omega) (by omega)
  | .atom s => .leaf (by omega) (by omega)
  | .int n => .leaf (by omega) (by omega)
  | .cpx re im => .leaf (by omega) (by omega)
  | .comp s args => .comp (kinds_uns args)
theorem kinds_uns : ∀ l : List CT, ∀ a ∈ uns l, Kinds a
  | [] => by simp [uns]
  | t :: ts => by
    intro a ha
    simp only [uns, List.mem_cons] at ha
    rcases ha with rfl | ha
    · exact kinds_un t
    · exact kinds_uns ts a ha
end
/-- A term that may be. -/
def Good (t : CT) : Prop := fine t ∧ depth t ≤ 500 ∧ nodes t ≤ 2000
theorem mayE_zero {t : Tm} : mayE t = 0 ↔ Kinds t ∧ Good (cl t) := by
  unfold mayE
  constructor
  · intro h
    obtain ⟨a, ⟨b1, b2, b3⟩, _⟩ := mayF_ok t 1 0 (mayF t 1 (0, 0)).1 (Prod.ext rfl h)
    exact ⟨a, b1, by omega, by omega⟩
  · rintro ⟨a, b1, b2, b3⟩
    rw [mayF_of t 1 0 a ⟨b1, by omega, by omega⟩]
theorem nodesN_ok {t : Tm} (h : mayE t = 0) : nodesN t = nodes (cl t) := by
  unfold nodesN
  rw [if_pos h]
  obtain ⟨a, b1, b2, b3⟩ := mayE_zero.1 h
  rw [mayF_of t 1 0 a ⟨b1, by omega, by omega⟩]
  simp
theorem mayE_un {t : CT} (h : Good t) : mayE (un t) = 0 := mayE_zero.2 ⟨kinds_un t, by rw [cl_un]; exact h⟩

mutual
/-- Like: the same, of terms that may be. -/
def likeB : Tm → Tm → Bool
  | .mk k s n re im args, .mk k' s' n' re' im' args' =>
    if k ≠ k' then false
    else if k = 1 ∨ k = 3 then decide (n = n')
    else if k = 2 then decide (s = s')
    else if k = 4 then decide (re = re') && decide (im = im')
    else if s ≠ s' ∨ args.length ≠ args'.length then false
    else likeBs args args'
def likeBs : List Tm → List Tm → Bool
  | a :: rs, b :: bs => likeB a b && likeBs rs bs
  | _, _ => true
end
mutual
theorem like_iff : ∀ (a b : Tm), Kinds a → Kinds b → (likeB a b = true ↔ cl a = cl b)
  | .mk k s n re im args, .mk k' s' n' re' im' args', ha, hb => by
    have hr : 1 ≤ k ∧ k ≤ 5 := by cases ha with | leaf a b => omega | comp _ => omega
    have hr' : 1 ≤ k' ∧ k' ≤ 5 := by cases hb with | leaf a b => omega | comp _ => omega
    unfold likeB
    by_cases hk : k = k'
    · subst hk
      rw [if_neg (by simp)]
      rcases cl_cases k s n re im args hr.1 hr.2 with ⟨hk, hc⟩ | ⟨hk, hc⟩ | ⟨hk, hc⟩ | ⟨hk, hc⟩ | ⟨hk, hc⟩
      · subst hk; rw [hc]; simp [cl]
      · subst hk; rw [hc]; simp [cl]
      · subst hk; rw [hc]; simp [cl]
      · subst hk; rw [hc]; simp [cl]
      · subst hk; rw [hc]
        have hc' : cl (.mk 5 s' n' re' im' args') = .comp s' (cls args') := rfl
        rw [hc']
        simp only [CT.comp.injEq]
        rw [if_neg (by omega), if_neg (by omega), if_neg (by omega)]
        have h1 : ∀ a ∈ args, Kinds a := by cases ha with | leaf a b => omega | comp h => exact h
        have h2 : ∀ a ∈ args', Kinds a := by cases hb with | leaf a b => omega | comp h => exact h
        by_cases hs : s = s'
        · by_cases hl : args.length = args'.length
          · rw [if_neg (by simp [hs, hl]), likes_iff args args' h1 h2 hl]
            simp [hs]
          · rw [if_pos (Or.inr hl)]
            simp only [Bool.false_eq_true, false_iff, not_and]
            intro _ e
            have := congrArg List.length e
            rw [cls_length, cls_length] at this
            exact hl this
        · rw [if_pos (Or.inl hs)]
          simp [hs]
    · rw [if_pos (by exact hk)]
      simp only [Bool.false_eq_true, false_iff]
      intro e
      rcases cl_cases k s n re im args hr.1 hr.2 with ⟨hk1, hc⟩ | ⟨hk1, hc⟩ | ⟨hk1, hc⟩ | ⟨hk1, hc⟩ | ⟨hk1, hc⟩ <;>
      rcases cl_cases k' s' n' re' im' args' hr'.1 hr'.2 with ⟨hk2, hc'⟩ | ⟨hk2, hc'⟩ | ⟨hk2, hc'⟩ | ⟨hk2, hc'⟩ | ⟨hk2, hc'⟩ <;> rw [hc, hc'] at e <;> first | (cases e; done) | omega
theorem likes_iff : ∀ (l m : List Tm), (∀ a ∈ l, Kinds a) → (∀ a ∈ m, Kinds a) → l.length = m.length → (likeBs l m = true ↔ cls l = cls m)
  | [], [], _, _, _ => by simp [likeBs, cls]
  | [], _ :: _, _, _, h => by simp at h
  | _ :: _, [], _, _, h => by simp at h
  | a :: rs, b :: bs, h1, h2, hl => by
    unfold likeBs
    simp only [cls, List.cons.injEq, Bool.and_eq_true]
    rw [like_iff a b (h1 a (by simp)) (h2 b (by simp)), likes_iff rs bs (fun x hx => h1 x (by simp [hx])) (fun x hx => h2 x (by simp [hx])) (by simpa using hl)]
end
/-- Same. -/
def sameB (a b : Tm) : Bool := decide (mayE a = 0) && decide (mayE b = 0) && likeB a b
theorem same_iff {a b : Tm} : sameB a b = true ↔ mayE a = 0 ∧ mayE b = 0 ∧ cl a = cl b := by
  unfold sameB
  simp only [Bool.and_eq_true, decide_eq_true_eq, and_assoc]
  constructor
  · rintro ⟨h1, h2, h3⟩
    exact ⟨h1, h2, (like_iff a b (mayE_zero.1 h1).1 (mayE_zero.1 h2).1).1 h3⟩
  · rintro ⟨h1, h2, h3⟩
    exact ⟨h1, h2, (like_iff a b (mayE_zero.1 h1).1 (mayE_zero.1 h2).1).2 h3⟩
end Go.Proofs.Ytlmcfclonncgbaa
/- The cells' calls (package cell, and the reference's), each by a contract: what it answers; the world stays. -/
namespace Go.Proofs.Ytlmcfclonncgbaa
open Go.RowKit

theorem ret_int {k : IntKind} {a b : Int} (h : a = b) : Ending.returned (.int k a) = .returned (.int k b) := by rw [h]
theorem ret_pair {k : IntKind} {a b : Int} {v : Value} (h : a = b) : Ending.returned (.tuple #[.int k a, v]) = .returned (.tuple #[.int k b, v]) := by rw [h]
theorem tag_any (c : Int) (w : World) : Calls Try.prog 126 #[.int .u64 c] w fun e w' => e = .returned (.int .i64 (c % 8)) ∧ w' = w := by
  go_enter Try.func126, Try.ntmps126
  go_wp2
  go_ret
  exact ⟨ret_int (by rw [and7', wrap64_in _ (by omega) (by omega)]), rfl⟩
theorem rtag_any (c : Int) (w : World) : Calls Try.prog 133 #[.int .u64 c] w fun e w' => e = .returned (.int .i64 (c % 8)) ∧ w' = w := by
  go_enter Try.func133, Try.ntmps133
  go_wp2
  go_ret
  exact ⟨ret_int (by rw [and7', wrap64_in _ (by omega) (by omega)]), rfl⟩
theorem value_any (c : Int) (w : World) : Calls Try.prog 111 #[.int .u64 c] w fun e w' => e = .returned (.int .u64 (c / 8)) ∧ w' = w := by
  go_enter Try.func111, Try.ntmps111
  go_wp2
  go_ret
  exact ⟨rfl, rfl⟩
theorem rvalue_any (c : Int) (w : World) : Calls Try.prog 132 #[.int .u64 c] w fun e w' => e = .returned (.int .u64 (c / 8)) ∧ w' = w := by
  go_enter Try.func132, Try.ntmps132
  go_wp2
  go_ret
  exact ⟨rfl, rfl⟩
theorem make_ok (t n : Int) (w : World) (h0 : 0 ≤ t) (h1 : t ≤ 6) (h2 : 0 ≤ n) (h3 : n < 2305843009213693952) :
    Calls Try.prog 118 #[.int .i64 t, .int .u64 n] w fun e w' => e = .returned (.tuple #[.int .u64 (n * 8 + t), .bool true]) ∧ w' = w := by
  go_enter Try.func118, Try.ntmps118
  go_wp2
  go_ret2
  exact ⟨ret_pair (or3 _ _ (by omega) (by omega) (by omega) (by omega) (by omega)), rfl⟩
theorem rmake_any (t n : Int) (w : World) (h0 : 0 ≤ t) (h1 : t ≤ 7) (h2 : 0 ≤ n) (h3 : n < 2305843009213693952) :
    Calls Try.prog 85 #[.int .i64 t, .int .u64 n] w fun e w' => e = .returned (.int .u64 (n * 8 + t)) ∧ w' = w := by
  go_enter Try.func85, Try.ntmps85
  go_wp2
  go_ret
  exact ⟨ret_int (or3 _ _ (by omega) (by omega) (by omega) (by omega) (by omega)), rfl⟩

end Go.Proofs.Ytlmcfclonncgbaa
/- The heap's calls (package heap), each by a contract: what it answers, what becomes of the heap's cells, and that no other object is touched. -/
namespace Go.Proofs.Ytlmcfclonncgbaa
open Go.RowKit

theorem info_cell : (Try.prog.info? 34).map (fun i => (i.zero, i.size, i.bytes)) = some (some (.int .u64 0), 1, 8) := by kernel_rfl

/-- Words as values. -/
def words (l : List Int) : List Value := l.map (Value.int .u64)
theorem words_length (l : List Int) : (words l).length = l.length := by simp [words]
theorem words_append (l m : List Int) : words (l ++ m) = words l ++ words m := by simp [words]
theorem words_get (l : List Int) (j : Nat) (h : j < l.length) : (words l)[j]? = some (.int .u64 (l.getD j 0)) := by simp [words, h]
theorem words_take (l : List Int) (j : Nat) : (words l).take j = words (l.take j) := by simp [words, List.map_take]
theorem words_set (l : List Int) (j : Nat) (x : Int) : (words l).set j (.int .u64 x) = words (l.set j x) := by simp [words]

/-- A heap at block p: how many cells at most, the cells. -/
def HP (own : Nat → Nat) (id : Nat) (w : World) (p : Nat) (most : Int) (l : List Int) : Prop :=
  ∃ v, Blk own id w p [.int .i64 most, v] 121 ∧ Row own id w 34 1 v l.length (words l) ∧ (l.length : Int) ≤ most ∧ most ≤ 1048576
theorem HP.keep {own own' : Nat → Nat} {id p : Nat} {ids : List Nat} {w w' : World} {most : Int} {l : List Int} (h : HP own id w p most l) (x : Ext own own' ids w w') (hi : id ∉ ids) : HP own' id w' p most l := by
  obtain ⟨v, hb, hr, h1, h2⟩ := h
  exact ⟨v, hb.keep x hi, hr.keep x hi, h1, h2⟩
theorem HP.dr {own : Nat → Nat} {id p : Nat} {w : World} {most : Int} {l : List Int} (h : HP own id w p most l) (n : Nat) : HP own id (w.drewN n) p most l := h
theorem HP.len {own : Nat → Nat} {id p : Nat} {w : World} {most : Int} {l : List Int} (h : HP own id w p most l) : (l.length : Int) ≤ most ∧ most ≤ 1048576 := by
  obtain ⟨_, _, _, h1, h2⟩ := h; exact ⟨h1, h2⟩

/-- 'New': max(0, min(most, MaxCells)). -/
def mostOf (most : Int) : Int := if most > 1048576 then 1048576 else if most > 0 then most else 0
theorem mostOf_range (most : Int) : 0 ≤ mostOf most ∧ mostOf most ≤ 1048576 := by unfold mostOf; split <;> (try split) <;> omega
theorem new_end (own : Nat → Nat) (id : Nat) (w : World) (m : Int) (h0 : 0 ≤ m) (h1 : m ≤ 1048576) :
    Ext own (give own w.heap.size id) [] w (w.alloc (.cells #[.int .i64 m, .slice none 0 0] 121)) ∧ HP (give own w.heap.size id) id (w.alloc (.cells #[.int .i64 m, .slice none 0 0] 121)) w.heap.size m [] :=
  ⟨((Ext.refl own [] w).alloc _).give _ _ (Nat.le_refl _), _, ⟨heap_alloc_new _ _, give_same _ _ _⟩, Row.nil _ _ _ _ _, by simpa using h0, h1⟩
def MadeHeap (own : Nat → Nat) (w : World) (id : Nat) (m : Int) (e : Ending) (w' : World) : Prop :=
  ∃ own', Ext own own' [] w w' ∧ e = .returned (.pointer (some ⟨w.heap.size, 0, none⟩)) ∧ w.heap.size < w'.heap.size ∧ HP own' id w' w.heap.size m []
theorem new_any (own : Nat → Nat) (id : Nat) (most : Int) (w : World) : Calls Try.prog 26 #[.int .i64 most] w (MadeHeap own w id (mostOf most)) := by
  have fin : ∀ m, m = mostOf most → MadeHeap own w id (mostOf most) (.returned (.pointer (some ⟨w.heap.size, 0, none⟩))) (w.alloc (.cells #[.int .i64 m, .slice none 0 0] 121)) := by
    intro m hm
    subst hm
    exact ⟨_, (new_end own id w _ (mostOf_range most).1 (mostOf_range most).2).1, rfl, by simp, (new_end own id w _ (mostOf_range most).1 (mostOf_range most).2).2⟩
  go_enter Try.func26, Try.ntmps26
  go_wp2_with fail
  all_goals
    go_ret
    refine fin _ ?_
    unfold mostOf
    (repeat' split) <;> omega

/-- In a region that draws its order: a callee that leaves the world alone. -/
theorem quiet_gen {P : Program} {f : FuncId} {args : Array Value} {X : World} {F : Nat → World} {v : Value} (h : Calls P f args X fun e w' => e = .returned v ∧ w' = X) (hx : ∃ m, X = F m) :
    Calls P f args X fun e w'' => e = .returned v ∧ ∃ m, w'' = F m :=
  h.mono fun _ _ ⟨he, hm⟩ => ⟨he, by rw [hm]; exact hx⟩
/-- A call that reads: the answer; the world but for draws. -/
def Quiet (w : World) (v : Value) (e : Ending) (w' : World) : Prop := e = .returned v ∧ ∃ n, w' = w.drewN n
theorem Quiet.same {w w' : World} {v : Value} {e : Ending} (h : e = .returned v ∧ w' = w) : Quiet w v e w' := ⟨h.1, 0, h.2⟩

set_option maxHeartbeats 400000 in
/-- 'Push', where there is room. -/
theorem push_room (own : Nat → Nat) (id p : Nat) (most c : Int) (l : List Int) (w : World) (h : HP own id w p most l) (hlt : (l.length : Int) < most) :
    Calls Try.prog 44 #[.pointer (some ⟨p, 0, none⟩), .int .u64 c] w
      (Does own [id] w fun own' e w' => e = .returned (.tuple #[.int .i64 l.length, .int .i64 0]) ∧ HP own' id w' p most (l ++ [c])) := by
  obtain ⟨v, hb, hr, h1, h2⟩ := h
  have c0 := hb.cell 0 rfl
  have c1 := hb.cell 1 rfl
  obtain ⟨A, cap, rfl, hc⟩ := hr.form
  have hd : ((l.length : Int) == most) = false := by simp; omega
  go_enter Try.func44, Try.ntmps44
  go_wp2_with fail
  go_quiet (fail)
  go_wp2_with (at_builtin; refine wpList_append_row rfl _ _ 62 rfl 34 (.int .u64 0) 1 8 Try.underlying62 info_cell rfl (by decide) (by decide) rfl rfl rfl (one_cell' _ rfl) hr (by omega) ?_)
  intro g cap' w1 own1 hr1 x1 hk1 hz
  have hb1 := hk1 p _ _ hb (by decide)
  clear hk1 hz
  have d1 := hb1.cell 1 rfl
  have f1 := hb1.free 1
  have hq : 0 ≤ (l.length : Int) := by omega
  go_wp2
  go_ret2
  have hne : (Value.slice (some ⟨g, 0, none⟩) (l.length + 1) cap').ownBlock ≠ some p := hr1.ne_blk hb1 (by decide)
  refine ⟨own1, ?_, ret_pair (by omega), _, hb1.set 1 _, ?_, by simp; omega, h2⟩
  · exact x1.ofDrew.setCell _ _ (fun _ => by show own p ∈ [id]; rw [hb.2]; simp)
  · have := hr1.far (p := ⟨p, 1, none⟩) hne (Value.slice (some ⟨g, 0, none⟩) (l.length + 1) cap')
    rw [words_append, List.length_append]
    exact this

set_option maxHeartbeats 400000 in
/-- 'Push', where there is none. -/
theorem push_full (own : Nat → Nat) (id p : Nat) (most c : Int) (l : List Int) (w : World) (h : HP own id w p most l) (hlt : (l.length : Int) = most) :
    Calls Try.prog 44 #[.pointer (some ⟨p, 0, none⟩), .int .u64 c] w
      (Quiet w (.tuple #[.int .i64 0, .int .i64 4])) := by
  obtain ⟨v, hb, hr, h1, h2⟩ := h
  have c0 := hb.cell 0 rfl
  have c1 := hb.cell 1 rfl
  obtain ⟨A, cap, rfl, hc⟩ := hr.form
  have hd : ((l.length : Int) == most) = true := by simp; omega
  clear hlt
  go_enter Try.func44, Try.ntmps44
  go_wp2_with fail
  go_quiet (fail)
  go_wp2
  go_ret2
  exact ⟨rfl, _, rfl⟩

theorem push_nil (c : Int) (w : World) : Calls Try.prog 44 #[.pointer none, .int .u64 c] w (Quiet w (.tuple #[.int .i64 0, .int .i64 1])) := by
  go_enter Try.func44, Try.ntmps44
  go_wp2
  go_ret2
  exact ⟨rfl, 0, rfl⟩

theorem most_any (own : Nat → Nat) (id p : Nat) (most : Int) (l : List Int) (w : World) (h : HP own id w p most l) : Calls Try.prog 98 #[.pointer (some ⟨p, 0, none⟩)] w (Quiet w (.int .i64 most)) := by
  obtain ⟨v, hb, hr, h1, h2⟩ := h
  have c0 := hb.cell 0 rfl
  have c1 := hb.cell 1 rfl
  obtain ⟨A, cap, rfl, hc⟩ := hr.form
  go_enter Try.func98, Try.ntmps98
  go_wp2_with fail
  go_ret
  exact ⟨rfl, 0, rfl⟩
theorem most_nil (w : World) : Calls Try.prog 98 #[.pointer none] w (Quiet w (.int .i64 0)) := by
  go_enter Try.func98, Try.ntmps98
  go_wp2
  go_ret
  exact ⟨rfl, 0, rfl⟩

theorem len_any (own : Nat → Nat) (id p : Nat) (most : Int) (l : List Int) (w : World) (h : HP own id w p most l) : Calls Try.prog 31 #[.pointer (some ⟨p, 0, none⟩)] w (Quiet w (.int .i64 l.length)) := by
  obtain ⟨v, hb, hr, h1, h2⟩ := h
  have c0 := hb.cell 0 rfl
  have c1 := hb.cell 1 rfl
  obtain ⟨A, cap, rfl, hc⟩ := hr.form
  go_enter Try.func31, Try.ntmps31
  go_wp2_with fail
  go_ret
  exact ⟨rfl, 0, rfl⟩
theorem len_nil (w : World) : Calls Try.prog 31 #[.pointer none] w (Quiet w (.int .i64 0)) := by
  go_enter Try.func31, Try.ntmps31
  go_wp2
  go_ret
  exact ⟨rfl, 0, rfl⟩

/-- Is there such a place? -/
def inB (l : List Int) (i : Int) : Bool := decide (0 ≤ i) && decide (i < (l.length : Int))
theorem inB_true {l : List Int} {i : Int} (h0 : 0 ≤ i) (h1 : i < l.length) : inB l i = true := by simp [inB, h0, h1]
theorem inB_false {l : List Int} {i : Int} (h : i < 0 ∨ (l.length : Int) ≤ i) : inB l i = false := by
  unfold inB
  rcases h with h | h
  · rw [decide_eq_false (by omega : ¬ 0 ≤ i)]; rfl
  · rw [decide_eq_false (by omega : ¬ i < (l.length : Int))]; simp
theorem inB_iff {l : List Int} {i : Int} : inB l i = true ↔ 0 ≤ i ∧ i < l.length := by simp [inB]
def getV (l : List Int) (i : Int) : Int := if inB l i then l.getD i.toNat 0 else 0

theorem get_in (own : Nat → Nat) (id p : Nat) (most at_ : Int) (l : List Int) (w : World) (h : HP own id w p most l) (h0 : 0 ≤ at_) (hlt : at_ < l.length) :
    Calls Try.prog 36 #[.pointer (some ⟨p, 0, none⟩), .int .i64 at_] w (Quiet w (.tuple #[.int .u64 (l.getD at_.toNat 0), .bool true])) := by
  have h' := h
  obtain ⟨v, hb, hr, h1, h2⟩ := h
  obtain ⟨k, rfl⟩ := Int.eq_ofNat_of_zero_le h0
  have c1 := hb.cell 1 rfl
  obtain ⟨g, cap, rfl, hc⟩ := hr.form_pos (by omega)
  have ck := hr.cell k (words_get l k (by omega))
  rw [Int.toNat_natCast]
  go_enter Try.func36, Try.ntmps36
  go_wp2_with (go_at_call 31; refine (len_any own id p most l _ h').mono ?_; rintro e w' ⟨rfl, n, rfl⟩)
  go_ret2
  exact ⟨rfl, _, rfl⟩
theorem get_out (own : Nat → Nat) (id p : Nat) (most at_ : Int) (l : List Int) (w : World) (h : HP own id w p most l) (hlt : at_ < 0 ∨ (l.length : Int) ≤ at_) :
    Calls Try.prog 36 #[.pointer (some ⟨p, 0, none⟩), .int .i64 at_] w (Quiet w (.tuple #[.int .u64 0, .bool false])) := by
  by_cases h0 : at_ < 0
  · go_enter Try.func36, Try.ntmps36
    go_wp2_with fail
    go_ret2
    exact ⟨rfl, 0, rfl⟩
  · have h1 : (l.length : Int) ≤ at_ := by omega
    go_enter Try.func36, Try.ntmps36
    go_wp2_with (go_at_call 31; refine (len_any own id p most l _ h).mono ?_; rintro e w' ⟨rfl, n, rfl⟩)
    go_ret2
    exact ⟨rfl, _, rfl⟩
theorem get_any (own : Nat → Nat) (id p : Nat) (most at_ : Int) (l : List Int) (w : World) (h : HP own id w p most l) :
    Calls Try.prog 36 #[.pointer (some ⟨p, 0, none⟩), .int .i64 at_] w (Quiet w (.tuple #[.int .u64 (getV l at_), .bool (inB l at_)])) := by
  by_cases hi : 0 ≤ at_ ∧ at_ < l.length
  · have := get_in own id p most at_ l w h hi.1 hi.2
    unfold getV; rw [inB_true hi.1 hi.2]; simpa using this
  · have := get_out own id p most at_ l w h (by omega)
    unfold getV; rw [inB_false (by omega)]; simpa using this
theorem get_nil (at_ : Int) (w : World) : Calls Try.prog 36 #[.pointer none, .int .i64 at_] w (Quiet w (.tuple #[.int .u64 0, .bool false])) := by
  by_cases h0 : at_ < 0
  · go_enter Try.func36, Try.ntmps36
    go_wp2_with fail
    go_ret2
    exact ⟨rfl, 0, rfl⟩
  · have h1 : 0 ≤ at_ := by omega
    go_enter Try.func36, Try.ntmps36
    go_wp2_with (go_at_call 31; refine (len_nil _).mono ?_; rintro e w' ⟨rfl, n, rfl⟩)
    go_ret2
    exact ⟨rfl, _, rfl⟩

theorem set_in (own : Nat → Nat) (id p : Nat) (most at_ c : Int) (l : List Int) (w : World) (h : HP own id w p most l) (h0 : 0 ≤ at_) (hlt : at_ < l.length) :
    Calls Try.prog 88 #[.pointer (some ⟨p, 0, none⟩), .int .i64 at_, .int .u64 c] w
      (Does own [id] w fun own' e w' => e = .returned (.bool true) ∧ HP own' id w' p most (l.set at_.toNat c)) := by
  have h' := h
  obtain ⟨v, hb, hr, h1, h2⟩ := h
  obtain ⟨k, rfl⟩ := Int.eq_ofNat_of_zero_le h0
  have c1 := hb.cell 1 rfl
  obtain ⟨g, cap, rfl, hc⟩ := hr.form_pos (by omega)
  have ck := hr.cell k (words_get l k (by omega))
  have fk := hr.free k
  rw [Int.toNat_natCast]
  go_enter Try.func88, Try.ntmps88
  go_wp2_with (go_at_call 31; refine (len_any own id p most l _ h').mono ?_; rintro e w' ⟨rfl, n, rfl⟩)
  go_ret
  have hne := hr.ne_blk hb (by decide)
  refine ⟨own, ?_, rfl, _, (hb.far (p := ⟨g, k, none⟩) (fun e => hne (by simp [Value.ownBlock]; exact e)) _), ?_, by simpa using h1, h2⟩
  · refine Ext.setCell ?_ _ _ (fun _ => ?_)
    · exact (Ext.refl own [id] w).drewN _
    · show own g ∈ [id]
      rw [hr.2 g rfl]; simp
  · have := hr.set k (Value.int .u64 c)
    rw [words_set] at this
    rw [List.length_set]
    exact this
theorem set_out (own : Nat → Nat) (id p : Nat) (most at_ c : Int) (l : List Int) (w : World) (h : HP own id w p most l) (hlt : at_ < 0 ∨ (l.length : Int) ≤ at_) :
    Calls Try.prog 88 #[.pointer (some ⟨p, 0, none⟩), .int .i64 at_, .int .u64 c] w (Quiet w (.bool false)) := by
  by_cases h0 : at_ < 0
  · go_enter Try.func88, Try.ntmps88
    go_wp2_with fail
    go_ret
    exact ⟨rfl, 0, rfl⟩
  · have h1 : (l.length : Int) ≤ at_ := by omega
    go_enter Try.func88, Try.ntmps88
    go_wp2_with (go_at_call 31; refine (len_any own id p most l _ h).mono ?_; rintro e w' ⟨rfl, n, rfl⟩)
    go_ret
    exact ⟨rfl, _, rfl⟩
theorem set_nil (at_ c : Int) (w : World) : Calls Try.prog 88 #[.pointer none, .int .i64 at_, .int .u64 c] w (Quiet w (.bool false)) := by
  by_cases h0 : at_ < 0
  · go_enter Try.func88, Try.ntmps88
    go_wp2_with fail
    go_ret
    exact ⟨rfl, 0, rfl⟩
  · have h1 : 0 ≤ at_ := by omega
    go_enter Try.func88, Try.ntmps88
    go_wp2_with (go_at_call 31; refine (len_nil _).mono ?_; rintro e w' ⟨rfl, n, rfl⟩)
    go_ret
    exact ⟨rfl, _, rfl⟩
/-- What becomes of the cells. -/
def setL (l : List Int) (i c : Int) : List Int := if inB l i then l.set i.toNat c else l
theorem Quiet.does {own : Nat → Nat} {id : Nat} {w w' : World} {v : Value} {e : Ending} {R : (Nat → Nat) → Ending → World → Prop} (h : Quiet w v e w') (hR : ∀ n, R own (.returned v) (w.drewN n)) : Does own [id] w R e w' := by
  obtain ⟨rfl, n, rfl⟩ := h
  exact ⟨own, (Ext.refl own [id] w).drewN n, hR n⟩
theorem set_any (own : Nat → Nat) (id p : Nat) (most at_ c : Int) (l : List Int) (w : World) (h : HP own id w p most l) :
    Calls Try.prog 88 #[.pointer (some ⟨p, 0, none⟩), .int .i64 at_, .int .u64 c] w
      (Does own [id] w fun own' e w' => e = .returned (.bool (inB l at_)) ∧ HP own' id w' p most (setL l at_ c)) := by
  by_cases hi : 0 ≤ at_ ∧ at_ < l.length
  · have := set_in own id p most at_ c l w h hi.1 hi.2
    unfold setL; rw [inB_true hi.1 hi.2]; simpa using this
  · refine (set_out own id p most at_ c l w h (by omega)).mono fun e w' hq => hq.does fun n => ?_
    unfold setL; rw [inB_false (by omega)]
    exact ⟨rfl, h⟩
/-- What becomes of the cells behind 'Push', and what it answers. -/
def pushL (most : Int) (l : List Int) (c : Int) : List Int := if (l.length : Int) < most then l ++ [c] else l
def pushV (most : Int) (l : List Int) : Value := if (l.length : Int) < most then .tuple #[.int .i64 l.length, .int .i64 0] else .tuple #[.int .i64 0, .int .i64 4]
theorem push_any (own : Nat → Nat) (id p : Nat) (most c : Int) (l : List Int) (w : World) (h : HP own id w p most l) :
    Calls Try.prog 44 #[.pointer (some ⟨p, 0, none⟩), .int .u64 c] w
      (Does own [id] w fun own' e w' => e = .returned (pushV most l) ∧ HP own' id w' p most (pushL most l c)) := by
  by_cases hi : (l.length : Int) < most
  · have := push_room own id p most c l w h hi
    unfold pushV pushL; simpa [hi] using this
  · refine (push_full own id p most c l w h (by have := h.len; omega)).mono fun e w' hq => hq.does fun n => ?_
    unfold pushV pushL; rw [if_neg hi, if_neg hi]
    exact ⟨rfl, h⟩


theorem var_room (own : Nat → Nat) (id p : Nat) (most : Int) (l : List Int) (w : World) (h : HP own id w p most l) (hi : (l.length : Int) < most) :
    Calls Try.prog 82 #[.pointer (some ⟨p, 0, none⟩)] w
      (Does own [id] w fun own' e w' => e = .returned (.tuple #[.int .i64 l.length, .int .i64 0]) ∧ HP own' id w' p most (l ++ [(l.length : Int) * 8])) := by
  have hl := h.len
  go_enter Try.func82, Try.ntmps82
  go_wp2_with (first | (go_at_call 31; refine (len_any own id p most l _ h).mono ?_; rintro e w' ⟨rfl, n, rfl⟩) | (go_at_call 118; refine (make_ok _ _ _ (by omega) (by omega) (by omega) (by omega)).mono ?_; rintro e w' ⟨rfl, rfl⟩) | (go_at_call 44; refine (push_room own id p most _ l _ (h.dr _) hi).mono ?_; rintro e w' ⟨own1, x1, rfl, hp1⟩))
  go_ret2
  exact ⟨own1, x1.ofDrew, rfl, hp1⟩
theorem var_full (own : Nat → Nat) (id p : Nat) (most : Int) (l : List Int) (w : World) (h : HP own id w p most l) (hi : (l.length : Int) = most) :
    Calls Try.prog 82 #[.pointer (some ⟨p, 0, none⟩)] w (Quiet w (.tuple #[.int .i64 0, .int .i64 4])) := by
  have hl := h.len
  have hi' := Lib.hid hi
  clear hi
  go_enter Try.func82, Try.ntmps82
  go_wp2_with (first | (go_at_call 31; refine (len_any own id p most l _ h).mono ?_; rintro e w' ⟨rfl, n, rfl⟩) | (go_at_call 118; refine (make_ok _ _ _ (by omega) (by omega) (by omega) (by omega)).mono ?_; rintro e w' ⟨rfl, rfl⟩) | (go_at_call 44; refine (push_full own id p most _ l _ (h.dr _) hi'.out).mono ?_; rintro e w' ⟨rfl, n, rfl⟩))
  go_ret2
  exact ⟨rfl, _, rfl⟩
theorem var_any (own : Nat → Nat) (id p : Nat) (most : Int) (l : List Int) (w : World) (h : HP own id w p most l) :
    Calls Try.prog 82 #[.pointer (some ⟨p, 0, none⟩)] w
      (Does own [id] w fun own' e w' => e = .returned (pushV most l) ∧ HP own' id w' p most (pushL most l (l.length * 8))) := by
  have hl := h.len
  by_cases hi : (l.length : Int) < most
  · unfold pushV pushL
    rw [if_pos hi, if_pos hi]
    exact var_room own id p most l w h hi
  · unfold pushV pushL
    rw [if_neg hi, if_neg hi]
    exact (var_full own id p most l w h (by omega)).mono fun e w' hq => hq.does fun n => ⟨rfl, h⟩
theorem var_nil (w : World) : Calls Try.prog 82 #[.pointer none] w (Quiet w (.tuple #[.int .i64 0, .int .i64 1])) := by
  go_enter Try.func82, Try.ntmps82
  go_wp2_with (first | (go_at_call 31; refine (len_nil _).mono ?_; rintro e w' ⟨rfl, n, rfl⟩) | (go_at_call 118; refine (make_ok _ _ _ (by omega) (by omega) (by omega) (by omega)).mono ?_; rintro e w' ⟨rfl, rfl⟩) | (go_at_call 44; refine (push_nil _ _).mono ?_; rintro e w' ⟨rfl, n, rfl⟩))
  go_ret2
  exact ⟨rfl, _, rfl⟩

end Go.Proofs.Ytlmcfclonncgbaa
/- A heap in a world with one block more; a block that is the call's own. -/
namespace Go.Proofs.Ytlmcfclonncgbaa
open Go.RowKit
set_option linter.unusedVariables false

theorem HP.alloc {own : Nat → Nat} {id p : Nat} {w : World} {most : Int} {l : List Int} (h : HP own id w p most l) (o : Obj) : HP own id (w.alloc o) p most l := by
  obtain ⟨v, hb, hr, h1, h2⟩ := h
  exact ⟨v, hb.alloc o, hr.alloc o, h1, h2⟩
/-- A block of the call's own: a box. -/
theorem Ext.box {o o' : Nat → Nat} {ids : List Nat} {w w' : World} (h : Ext o o' ids w w') (cs : List Value) (t id : Nat) :
    Ext o (_root_.Go.Proofs.Ytlmcfclonncgbaa.give o' w'.heap.size id) ids w (w'.alloc (.cells cs.toArray t)) ∧ Blk (_root_.Go.Proofs.Ytlmcfclonncgbaa.give o' w'.heap.size id) id (w'.alloc (.cells cs.toArray t)) w'.heap.size cs t ∧ Ext o' (_root_.Go.Proofs.Ytlmcfclonncgbaa.give o' w'.heap.size id) [] w' (w'.alloc (.cells cs.toArray t)) := by
  have hb : Blk (_root_.Go.Proofs.Ytlmcfclonncgbaa.give o' w'.heap.size id) id (w'.alloc (.cells cs.toArray t)) w'.heap.size cs t := ⟨heap_alloc_new _ _, give_same _ _ _⟩
  exact ⟨(h.alloc _).give _ _ h.size, hb, ((Ext.refl o' [] w').alloc _).give _ _ (Nat.le_refl _)⟩

/-- Some owner that has nothing yet. -/
theorem fresh_owner (own : Nat → Nat) : ∀ n : Nat, ∃ F, ∀ b, b < n → own b < F
  | 0 => ⟨0, fun b h => by omega⟩
  | n + 1 => by
    obtain ⟨F, h⟩ := fresh_owner own n
    refine ⟨F + own n + 1, fun b hb => ?_⟩
    by_cases e : b = n
    · subst e; omega
    · have := h b (by omega); omega
/-- A row that a fresh owner made is anyone's. -/
theorem Row.anyone {own own1 : Nat → Nat} {F id : Nat} {w w' : World} {e : TypeId} {size n : Nat} {v : Value} {xs : List Value} (x : Ext own own1 [F] w w') (hF : ∀ b, b < w.heap.size → own b < F) (h : Row own1 F w' e size v n xs) :
    ∃ own2, Ext own own2 [] w w' ∧ Row own2 id w' e size v n xs := by
  refine ⟨fun b => if b < w.heap.size then own b else id, ⟨x.os, x.tape, x.output, x.size, fun b hb => if_pos hb, fun b hb _ => x.block b hb (by have := hF b hb; simp; omega)⟩, h.1, fun k hk => if_neg ?_⟩
  intro hlt
  have h1 := h.2 k hk
  have h2 := x.own k hlt
  have h3 := hF k hlt
  omega

end Go.Proofs.Ytlmcfclonncgbaa
/- May by a stack is May by recursion. No program in sight. -/
namespace Go.Proofs.Ytlmcfclonncgbaa
set_option linter.unusedVariables false

mutual
def nT : Tm → Nat
  | .mk _ _ _ _ _ args => nTs args + 1
def nTs : List Tm → Nat
  | [] => 0
  | t :: ts => nT t + nTs ts
end
def kidsOf (t : Tm) (d : Nat) : List (Tm × Nat) := if t.kind = 5 then t.args.map (fun a => (a, d + 1)) else []
def wtS : List (Tm × Nat) → Nat
  | [] => 0
  | p :: ps => nT p.1 + wtS ps
theorem wtS_append (a b : List (Tm × Nat)) : wtS (a ++ b) = wtS a + wtS b := by
  induction a with
  | nil => simp [wtS]
  | cons p a ih => simp only [List.cons_append, wtS, ih]; omega
theorem wtS_map (l : List Tm) (d : Nat) : wtS (l.map (fun a => (a, d))) = nTs l := by
  induction l with
  | nil => rfl
  | cons t l ih => simp only [List.map_cons, wtS, nTs, ih]
theorem wtS_kids (t : Tm) (d : Nat) : wtS (kidsOf t d) < nT t := by
  unfold kidsOf
  obtain ⟨k, s, n, re, im, args⟩ := t
  split
  · show wtS (args.map (fun a => (a, d + 1))) < nTs args + 1
    rw [wtS_map]; omega
  · simp [wtS, nT]
/-- A walk by a stack: what is wrong. -/
def goS (stk : List (Tm × Nat)) (n : Nat) : Int :=
  match stk with
  | [] => 0
  | (t, d) :: rest => if n = 2000 ∨ 500 < d then 3 else if oneE t ≠ 0 then oneE t else goS (kidsOf t d ++ rest) (n + 1)
  termination_by wtS stk
  decreasing_by
    simp only [wtS, wtS_append]
    have := wtS_kids t d
    omega
mutual
theorem goS_may : ∀ (t : Tm) (d n : Nat) (rest : List (Tm × Nat)), n ≤ 2000 → goS ((t, d) :: rest) n = if (mayF t d (n, 0)).2 ≠ 0 then (mayF t d (n, 0)).2 else goS rest (mayF t d (n, 0)).1
  | .mk k s i re im args, d, n, rest, hn => by
    rw [goS.eq_def]
    dsimp only
    unfold mayF
    dsimp only
    rw [if_neg (show ¬ ((0 : Int) ≠ 0) by simp)]
    by_cases h1 : n = 2000 ∨ 500 < d
    · rw [if_pos h1, if_pos (show 2000 < n + 1 ∨ 500 < d by omega)]
      simp
    · rw [if_neg h1, if_neg (show ¬ (2000 < n + 1 ∨ 500 < d) by omega)]
      by_cases h2 : oneE (.mk k s i re im args) ≠ 0
      · rw [if_pos h2, if_pos h2]
        simp only
        rw [if_pos h2]
      · rw [if_neg h2, if_neg h2]
        by_cases h5 : k = 5
        · rw [if_pos h5]
          have e : kidsOf (.mk k s i re im args) d = args.map (fun a => (a, d + 1)) := by unfold kidsOf; rw [if_pos (by exact h5)]; rfl
          rw [e]
          exact goSs_may args (d + 1) (n + 1) rest (by omega)
        · rw [if_neg h5]
          have e : kidsOf (.mk k s i re im args) d = [] := by unfold kidsOf; rw [if_neg (by exact h5)]
          rw [e]
          simp
theorem goSs_may : ∀ (l : List Tm) (d n : Nat) (rest : List (Tm × Nat)), n ≤ 2000 → goS (l.map (fun a => (a, d)) ++ rest) n = if (mayFs l d (n, 0)).2 ≠ 0 then (mayFs l d (n, 0)).2 else goS rest (mayFs l d (n, 0)).1
  | [], d, n, rest, _ => by simp [mayFs]
  | t :: ts, d, n, rest, hn => by
    simp only [List.map_cons, List.cons_append]
    rw [goS_may t d n _ hn]
    unfold mayFs
    obtain ⟨m, e⟩ : ∃ p, mayF t d (n, 0) = p := ⟨_, rfl⟩
    obtain ⟨m, e0⟩ := m
    rw [e]
    by_cases h : e0 = 0
    · subst h
      have hm := (mayF_ok t d n m e).2.2
      have hb := (mayF_ok t d n m e).2.1.2.2
      simp only
      rw [if_neg (by simp), goSs_may ts d m rest (by omega)]
    · rw [mayFs_err ts d m e0 h]
      simp [h]
end
theorem goS_one (t : Tm) : goS [(t, 1)] 0 = mayE t := by
  rw [goS_may t 1 0 [] (by omega)]
  unfold mayE
  split
  · rfl
  · rename_i h
    rw [goS.eq_def]
    exact (Classical.not_not.1 h).symm
end Go.Proofs.Ytlmcfclonncgbaa
/- What a cell stands for on a heap; what becomes of it where a variable is bound. No program in sight. -/
namespace Go.Proofs.Ytlmcfclonncgbaa
set_option linter.unusedVariables false

/-- What a cell comes to: references followed, at most so many. -/
def derefF (l : List Int) : Nat → Int → Int
  | 0, c => c
  | n + 1, c => if c % 8 = 0 ∧ c / 8 < l.length then (if l.getD (c / 8).toNat 0 = c then c else derefF l n (l.getD (c / 8).toNat 0)) else c
def deref (l : List Int) (c : Int) : Int := derefF l l.length c

/-- A row of references that ends, and its length. -/
inductive ChN (l : List Int) : Nat → Int → Int → Prop
  | stop {c : Int} (h : c % 8 = 0 → c / 8 < l.length → l.getD (c / 8).toNat 0 = c) : ChN l 0 c c
  | step {k : Nat} {c d : Int} (h8 : c % 8 = 0) (hlt : c / 8 < l.length) (hne : l.getD (c / 8).toNat 0 ≠ c) (h : ChN l k (l.getD (c / 8).toNat 0) d) : ChN l (k + 1) c d
def Ch (l : List Int) (c d : Int) : Prop := ∃ k, ChN l k c d

theorem ChN.det {l : List Int} {k k' : Nat} {c d d' : Int} (h : ChN l k c d) : ChN l k' c d' → k = k' ∧ d = d' := by
  induction h generalizing k' d' with
  | stop hs =>
    intro h'
    cases h' with
    | stop _ => exact ⟨rfl, rfl⟩
    | step h8 hlt hne _ => exact absurd (hs h8 hlt) hne
  | step h8 hlt hne _ ih =>
    intro h'
    cases h' with
    | stop hs => exact absurd (hs h8 hlt) hne
    | step _ _ _ h2 =>
      obtain ⟨a, b⟩ := ih h2
      exact ⟨by omega, b⟩
theorem Ch.det {l : List Int} {c d d' : Int} (h : Ch l c d) (h' : Ch l c d') : d = d' := by
  obtain ⟨k, h⟩ := h
  obtain ⟨k', h'⟩ := h'
  exact (h.det h').2

theorem pigeon : ∀ (n : Nat) (vs : List Nat), vs.Nodup → (∀ v ∈ vs, v < n) → vs.length ≤ n
  | 0, vs, _, h => by
    cases vs with
    | nil => simp
    | cons v vs => exact absurd (h v (by simp)) (by omega)
  | n + 1, vs, hn, h => by
    by_cases hm : n ∈ vs
    · have h1 := pigeon n (vs.erase n) (hn.erase n) (fun v hv => by
        have := (hn.mem_erase_iff).1 hv
        have := h v this.2
        omega)
      rw [List.length_erase_of_mem hm] at h1
      omega
    · have := pigeon n vs hn (fun v hv => by
        have := h v hv
        have : v ≠ n := fun e => hm (e ▸ hv)
        omega)
      omega

theorem getD_pos {l : List Int} (h : ∀ x ∈ l, 0 ≤ x) (m : Nat) : 0 ≤ l.getD m 0 := by
  by_cases hm : m < l.length
  · simp only [List.getD, List.getElem?_eq_getElem hm, Option.getD_some]
    exact h _ (List.getElem_mem hm)
  · simp [List.getD, List.getElem?_eq_none (Nat.le_of_not_lt hm)]

theorem ChN.visits {l : List Int} (hl : ∀ x ∈ l, 0 ≤ x) {k : Nat} {c d : Int} (h : ChN l k c d) : 0 ≤ c → ∃ vs : List Nat, vs.length = k ∧ vs.Nodup ∧ (∀ v ∈ vs, v < l.length ∧ ∃ j, 1 ≤ j ∧ j ≤ k ∧ ChN l j ((v : Int) * 8) d) := by
  induction h with
  | stop _ => intro _; exact ⟨[], rfl, List.nodup_nil, by simp⟩
  | @step k c d h8 hlt hne h ih =>
    intro hc
    obtain ⟨vs, h1, h2, h3⟩ := ih (getD_pos hl _)
    have hcc : (((c / 8).toNat : Nat) : Int) * 8 = c := by omega
    refine ⟨(c / 8).toNat :: vs, by simp [h1], ?_, ?_⟩
    · rw [List.nodup_cons]
      refine ⟨fun hm => ?_, h2⟩
      obtain ⟨_, j, hj1, hj2, hj⟩ := h3 _ hm
      rw [hcc] at hj
      have := hj.det (.step h8 hlt hne h)
      omega
    · intro v hv
      rcases List.mem_cons.1 hv with rfl | hv
      · refine ⟨by omega, k + 1, by omega, Nat.le_refl _, ?_⟩
        rw [hcc]
        exact .step h8 hlt hne h
      · obtain ⟨a, j, b1, b2, b3⟩ := h3 v hv
        exact ⟨a, j, b1, by omega, b3⟩
theorem ChN.derefF {l : List Int} {k : Nat} {c d : Int} (h : ChN l k c d) : ∀ n, k ≤ n → derefF l n c = d := by
  induction h with
  | stop hs =>
    intro n _
    cases n with
    | zero => rfl
    | succ n =>
      unfold Ytlmcfclonncgbaa.derefF
      split
      · rename_i h; rw [if_pos (hs h.1 h.2)]
      · rfl
  | step h8 hlt hne h ih =>
    intro n hn
    cases n with
    | zero => omega
    | succ n =>
      unfold Ytlmcfclonncgbaa.derefF
      rw [if_pos ⟨h8, hlt⟩, if_neg hne]
      exact ih n (by omega)
/-- A row that ends is followed to its end. -/
theorem deref_of {l : List Int} (hl : ∀ x ∈ l, 0 ≤ x) {c d : Int} (hc : 0 ≤ c) (h : Ch l c d) : deref l c = d := by
  obtain ⟨k, h⟩ := h
  obtain ⟨vs, h1, h2, h3⟩ := h.visits hl hc
  exact h.derefF _ (by rw [← h1]; exact pigeon _ vs h2 (fun v hv => (h3 v hv).1))
theorem Ch.self {l : List Int} {c : Int} (h : c % 8 ≠ 0 ∨ l.getD (c / 8).toNat 0 = c) : Ch l c c := ⟨0, .stop (fun h8 _ => h.resolve_left (fun h' => h' h8))⟩
theorem Ch.cons {l : List Int} {c d : Int} (h8 : c % 8 = 0) (hlt : c / 8 < l.length) (h : Ch l (l.getD (c / 8).toNat 0) d) : Ch l c d := by
  by_cases he : l.getD (c / 8).toNat 0 = c
  · rwa [he] at h
  · obtain ⟨k, h⟩ := h
    exact ⟨k + 1, .step h8 hlt he h⟩
/-- What a row ends in is an end. -/
theorem Ch.end {l : List Int} {c d : Int} (h : Ch l c d) : Ch l d d := by
  obtain ⟨k, h⟩ := h
  induction h with
  | stop hs => exact ⟨0, .stop hs⟩
  | step _ _ _ _ ih => exact ih
theorem getD_append {l m : List Int} {j : Nat} (h : j < l.length) : (l ++ m).getD j 0 = l.getD j 0 := by
  simp only [List.getD]; rw [List.getElem?_append_left h]
theorem Ch.grow {l m : List Int} {c d : Int} (h : Ch l c d) (hc : 0 ≤ c) (hl : ∀ x ∈ l, 0 ≤ x) (hd : d % 8 ≠ 0 ∨ d / 8 < l.length) : Ch (l ++ m) c d := by
  obtain ⟨k, h⟩ := h
  induction h with
  | @stop c hs =>
    refine ⟨0, .stop fun h8 hlt => ?_⟩
    have hlt' : c / 8 < l.length := hd.resolve_left (fun h' => h' h8)
    rw [getD_append (by omega)]
    exact hs h8 hlt'
  | @step k c d h8 hlt hne h ih =>
    refine Ch.cons h8 (by rw [List.length_append]; omega) ?_
    rw [getD_append (by omega)]
    exact ih (getD_pos hl _) hd
theorem getD_set {l : List Int} {p j : Nat} {x : Int} : (l.set p x).getD j 0 = if p = j ∧ p < l.length then x else l.getD j 0 := by
  simp only [List.getD, List.getElem?_set]
  by_cases h : p = j
  · subst h
    by_cases h2 : p < l.length
    · simp [h2]
    · simp [h2]
  · simp [h]
/-- A variable bound: a row that ended elsewhere ends there still. -/
theorem Ch.set_other {l : List Int} {p : Nat} {x c d : Int} (h : Ch l c d) (hc : 0 ≤ c) (hl : ∀ x ∈ l, 0 ≤ x) (hp : l.getD p 0 = (p : Int) * 8) (hd : d ≠ (p : Int) * 8) : Ch (l.set p x) c d := by
  obtain ⟨k, h⟩ := h
  induction h with
  | @stop c hs =>
    refine ⟨0, .stop fun h8 hlt => ?_⟩
    rw [List.length_set] at hlt
    rw [getD_set, if_neg (by omega)]
    exact hs h8 hlt
  | @step k c d h8 hlt hne h ih =>
    refine Ch.cons h8 (by rw [List.length_set]; exact hlt) ?_
    rw [getD_set, if_neg ?_]
    · exact ih (getD_pos hl _) hd
    · rintro ⟨e, _⟩
      apply hne
      rw [← e, hp]
      omega
/-- .. and one that ended there goes on to what it was bound to. -/
theorem Ch.set_same {l : List Int} {p : Nat} {x c d : Int} (h : Ch l c ((p : Int) * 8)) (hc : 0 ≤ c) (hl : ∀ x ∈ l, 0 ≤ x) (hp : l.getD p 0 = (p : Int) * 8) (hlt : p < l.length) (hx : Ch (l.set p x) x d) : Ch (l.set p x) c d := by
  obtain ⟨k, h⟩ := h
  generalize he : (p : Int) * 8 = e at h
  induction h with
  | @stop c hs =>
    refine Ch.cons (by omega) (by rw [List.length_set]; omega) ?_
    have e1 : (c / 8).toNat = p := by omega
    rw [e1, getD_set, if_pos ⟨rfl, hlt⟩]
    exact hx
  | @step k c d h8 hlt' hne h ih =>
    refine Ch.cons h8 (by rw [List.length_set]; exact hlt') ?_
    rw [getD_set, if_neg ?_]
    · exact ih (getD_pos hl _) he
    · rintro ⟨e1, _⟩
      apply hne
      rw [← e1, hp]
      omega

/-! What a cell stands for -/
def smallC (n : Int) : Int := (n % 2305843009213693952) * 8 + 3
def isSmall (n : Int) : Prop := -1152921504606846976 ≤ n ∧ n < 1152921504606846976
instance (n : Int) : Decidable (isSmall n) := by unfold isSmall; infer_instance
def funC (i n : Nat) : Int := ((i : Int) * 256 + n) * 8 + 6
mutual
/-- A cell stands for a term; its variables: places. W: the places of plain words. -/
def rep (W : Nat → Prop) (l : List Int) (L : List ByteArray) : CT → Int → Prop
  | .var n, c => ∃ p : Nat, n = p ∧ p < l.length ∧ ¬ W p ∧ l.getD p 0 = (p : Int) * 8 ∧ Ch l c ((p : Int) * 8)
  | .atom s, c => ∃ i : Nat, L[i]? = some s ∧ Ch l c ((i : Int) * 8 + 2)
  | .int n, c => (isSmall n ∧ Ch l c (smallC n)) ∨ (¬ isSmall n ∧ -9223372036854775808 ≤ n ∧ n < 9223372036854775808 ∧ ∃ p : Nat, p < l.length ∧ W p ∧ l.getD p 0 = n % 18446744073709551616 ∧ Ch l c ((p : Int) * 8 + 4))
  | .cpx re im, c => ∃ p : Nat, p + 1 < l.length ∧ W p ∧ W (p + 1) ∧ l.getD p 0 = re ∧ l.getD (p + 1) 0 = im ∧ Ch l c ((p : Int) * 8 + 5)
  | .comp s args, c => ∃ p i : Nat, p + args.length < l.length ∧ ¬ W p ∧ l.getD p 0 = funC i args.length ∧ L[i]? = some s ∧ Ch l c ((p : Int) * 8 + 1) ∧ reps W l L args (p + 1)
def reps (W : Nat → Prop) (l : List Int) (L : List ByteArray) : List CT → Nat → Prop
  | [], _ => True
  | a :: rs, p => ¬ W p ∧ rep W l L a (l.getD p 0) ∧ reps W l L rs (p + 1)
end
mutual
/-- A variable stands in a term. -/
def occ (n : Int) : CT → Prop
  | .var m => n = m
  | .atom _ => False
  | .int _ => False
  | .cpx _ _ => False
  | .comp _ args => occs n args
def occs (n : Int) : List CT → Prop
  | [] => False
  | t :: ts => occ n t ∨ occs n ts
end
mutual
/-- Variables replaced. -/
def subst (f : Int → CT) : CT → CT
  | .var m => f m
  | .atom s => .atom s
  | .int n => .int n
  | .cpx re im => .cpx re im
  | .comp s args => .comp s (substs f args)
def substs (f : Int → CT) : List CT → List CT
  | [] => []
  | t :: ts => subst f t :: substs f ts
end
theorem substs_map (f : Int → CT) (l : List CT) : substs f l = l.map (subst f) := by
  induction l with
  | nil => rfl
  | cons a l ih => simp [substs, ih]
theorem substs_length (f : Int → CT) (l : List CT) : (substs f l).length = l.length := by rw [substs_map]; simp
def one (p : Nat) (X : CT) : Int → CT := fun m => if m = p then X else .var m
mutual
theorem subst_congr {f g : Int → CT} : ∀ t : CT, (∀ n, occ n t → f n = g n) → subst f t = subst g t
  | .var m, h => h m rfl
  | .atom s, _ => rfl
  | .int n, _ => rfl
  | .cpx re im, _ => rfl
  | .comp s args, h => by simp only [subst]; rw [substs_congr args h]
theorem substs_congr {f g : Int → CT} : ∀ l : List CT, (∀ n, occs n l → f n = g n) → substs f l = substs g l
  | [], _ => rfl
  | t :: ts, h => by simp only [substs]; rw [subst_congr t (fun n hn => h n (Or.inl hn)), substs_congr ts (fun n hn => h n (Or.inr hn))]
end
mutual
theorem subst_var : ∀ t : CT, subst .var t = t
  | .var m => rfl
  | .atom s => rfl
  | .int n => rfl
  | .cpx re im => rfl
  | .comp s args => by simp only [subst]; rw [substs_var args]
theorem substs_var : ∀ l : List CT, substs .var l = l
  | [] => rfl
  | t :: ts => by simp only [substs]; rw [subst_var t, substs_var ts]
end
theorem subst_one_not {p : Nat} {X t : CT} (h : ¬ occ p t) : subst (one p X) t = t := by
  rw [subst_congr (g := .var) t (fun n hn => by unfold one; rw [if_neg (fun e : n = (p : Int) => h (e ▸ hn))]), subst_var]
mutual
theorem subst_subst (f g : Int → CT) : ∀ t : CT, subst g (subst f t) = subst (fun n => subst g (f n)) t
  | .var m => rfl
  | .atom s => rfl
  | .int n => rfl
  | .cpx re im => rfl
  | .comp s args => by simp only [subst]; rw [substs_substs f g args]
theorem substs_substs (f g : Int → CT) : ∀ l : List CT, substs g (substs f l) = substs (fun n => subst g (f n)) l
  | [] => rfl
  | t :: ts => by simp only [substs]; rw [subst_subst f g t, substs_substs f g ts]
end
mutual
theorem occ_subst (f : Int → CT) : ∀ (t : CT) (n : Int), occ n (subst f t) ↔ ∃ m, occ m t ∧ occ n (f m)
  | .var m, n => by simp only [subst, occ]; exact ⟨fun h => ⟨m, rfl, h⟩, fun ⟨k, hk, h⟩ => hk ▸ h⟩
  | .atom s, n => by simp [subst, occ]
  | .int k, n => by simp [subst, occ]
  | .cpx re im, n => by simp [subst, occ]
  | .comp s args, n => by simp only [subst, occ]; exact occs_substs f args n
theorem occs_substs (f : Int → CT) : ∀ (l : List CT) (n : Int), occs n (substs f l) ↔ ∃ m, occs m l ∧ occ n (f m)
  | [], n => by simp [substs, occs]
  | t :: ts, n => by
    simp only [substs, occs, occ_subst f t n, occs_substs f ts n]
    constructor
    · rintro (⟨m, a, b⟩ | ⟨m, a, b⟩)
      · exact ⟨m, Or.inl a, b⟩
      · exact ⟨m, Or.inr a, b⟩
    · rintro ⟨m, a | a, b⟩
      · exact Or.inl ⟨m, a, b⟩
      · exact Or.inr ⟨m, a, b⟩
end

/-- All words of a heap are none below 0. -/
def Pos (l : List Int) : Prop := ∀ x ∈ l, 0 ≤ x
theorem Pos.append {l m : List Int} (h : Pos l) (h' : Pos m) : Pos (l ++ m) := fun x hx => (List.mem_append.1 hx).elim (h x) (h' x)
theorem Pos.set {l : List Int} {p : Nat} {x : Int} (h : Pos l) (hx : 0 ≤ x) : Pos (l.set p x) := fun y hy => by
  rcases List.mem_or_eq_of_mem_set hy with hy | hy
  · exact h y hy
  · omega

section
variable {W W' : Nat → Prop} {l m : List Int} {L M : List ByteArray}
mutual
/-- More cells behind, more names: a cell stands for what it stood for. -/
theorem rep_grow (hl : Pos l) (hw : ∀ p, p < l.length → (W' p ↔ W p)) : ∀ (t : CT) (c : Int), 0 ≤ c → rep W l L t c → rep W' (l ++ m) (L ++ M) t c
  | .var n, c, hc, h => by
    obtain ⟨p, h1, h2, h3, h4, h5⟩ := h
    exact ⟨p, h1, by rw [List.length_append]; omega, fun h => h3 ((hw p h2).1 h), by rw [getD_append h2]; exact h4, h5.grow hc hl (by omega)⟩
  | .atom s, c, hc, h => by
    obtain ⟨i, h1, h2⟩ := h
    exact ⟨i, by rw [List.getElem?_append_left (List.getElem?_eq_some_iff.1 h1).1]; exact h1, h2.grow hc hl (by omega)⟩
  | .int n, c, hc, h => by
    rcases h with ⟨h1, h2⟩ | ⟨h1, h2, h3, p, h4, h5, h6, h7⟩
    · exact Or.inl ⟨h1, h2.grow hc hl (by unfold smallC; omega)⟩
    · exact Or.inr ⟨h1, h2, h3, p, by rw [List.length_append]; omega, (hw p h4).2 h5, by rw [getD_append h4]; exact h6, h7.grow hc hl (by omega)⟩
  | .cpx re im, c, hc, h => by
    obtain ⟨p, h1, h2, h3, h4, h5, h6⟩ := h
    exact ⟨p, by rw [List.length_append]; omega, (hw p (by omega)).2 h2, (hw _ h1).2 h3, by rw [getD_append (by omega)]; exact h4, by rw [getD_append (by omega)]; exact h5, h6.grow hc hl (by omega)⟩
  | .comp s args, c, hc, h => by
    obtain ⟨p, i, h1, h2, h3, h4, h5, h6⟩ := h
    exact ⟨p, i, by rw [List.length_append]; omega, fun h => h2 ((hw p (by omega)).1 h), by rw [getD_append (by omega)]; exact h3, by rw [List.getElem?_append_left (List.getElem?_eq_some_iff.1 h4).1]; exact h4, h5.grow hc hl (by omega), reps_grow hl hw args (p + 1) (by omega) h6⟩
theorem reps_grow (hl : Pos l) (hw : ∀ p, p < l.length → (W' p ↔ W p)) : ∀ (ts : List CT) (p : Nat), p + ts.length ≤ l.length → reps W l L ts p → reps W' (l ++ m) (L ++ M) ts p
  | [], _, _, _ => trivial
  | t :: ts, p, hp, ⟨h0, h1, h2⟩ => by
    have hp' : p + (ts.length + 1) ≤ l.length := by simpa using hp
    refine ⟨fun h => h0 ((hw p (by omega)).1 h), ?_, reps_grow hl hw ts (p + 1) (by omega) h2⟩
    rw [getD_append (by omega)]
    exact rep_grow hl hw t _ (getD_pos hl _) h1
end
mutual
theorem rep_set_not {p : Nat} {x : Int} (hl : Pos l) (hp : l.getD p 0 = (p : Int) * 8) (hw : ¬ W p) : ∀ (t : CT) (c : Int), 0 ≤ c → ¬ occ p t → rep W l L t c → rep W (l.set p x) L t c
  | .var n, c, hc, hn, h => by
    obtain ⟨q, h1, h2, h3, h4, h5⟩ := h
    have hne : q ≠ p := by rintro rfl; exact hn h1.symm
    exact ⟨q, h1, by rw [List.length_set]; exact h2, h3, by rw [getD_set, if_neg (by omega)]; exact h4, h5.set_other hc hl hp (by omega)⟩
  | .atom s, c, hc, hn, h => by
    obtain ⟨i, h1, h2⟩ := h
    exact ⟨i, h1, h2.set_other hc hl hp (by omega)⟩
  | .int n, c, hc, hn, h => by
    rcases h with ⟨h1, h2⟩ | ⟨h1, h2, h3, q, h4, h5, h6, h7⟩
    · exact Or.inl ⟨h1, h2.set_other hc hl hp (by unfold smallC; omega)⟩
    · have hne : q ≠ p := by rintro rfl; exact hw h5
      exact Or.inr ⟨h1, h2, h3, q, by rw [List.length_set]; exact h4, h5, by rw [getD_set, if_neg (by omega)]; exact h6, h7.set_other hc hl hp (by omega)⟩
  | .cpx re im, c, hc, hn, h => by
    obtain ⟨q, h1, h2, h3, h4, h5, h6⟩ := h
    have hne : q ≠ p := by rintro rfl; exact hw h2
    have hne' : q + 1 ≠ p := by rintro rfl; exact hw h3
    exact ⟨q, by rw [List.length_set]; exact h1, h2, h3, by rw [getD_set, if_neg (by omega)]; exact h4, by rw [getD_set, if_neg (by omega)]; exact h5, h6.set_other hc hl hp (by omega)⟩
  | .comp s args, c, hc, hn, h => by
    obtain ⟨q, i, h1, h2, h3, h4, h5, h6⟩ := h
    have hne : q ≠ p := by rintro rfl; rw [hp] at h3; unfold funC at h3; omega
    exact ⟨q, i, by rw [List.length_set]; exact h1, h2, by rw [getD_set, if_neg (by omega)]; exact h3, h4, h5.set_other hc hl hp (by omega), reps_set_not hl hp hw args (q + 1) (by omega) hn h6⟩
theorem reps_set_not {p : Nat} {x : Int} (hl : Pos l) (hp : l.getD p 0 = (p : Int) * 8) (hw : ¬ W p) : ∀ (ts : List CT) (q : Nat), q + ts.length ≤ l.length → ¬ occs p ts → reps W l L ts q → reps W (l.set p x) L ts q
  | [], _, _, _, _ => trivial
  | t :: ts, q, hq, hn, ⟨h0, h1, h2⟩ => by
    have hq' : q + (ts.length + 1) ≤ l.length := by simpa using hq
    have hne : q ≠ p := by
      rintro rfl
      rw [hp] at h1
      have hself : Ch l ((q : Int) * 8) ((q : Int) * 8) := Ch.self (Or.inr (by rw [show ((q : Int) * 8 / 8).toNat = q by omega]; exact hp))
      apply hn
      left
      cases t with
      | var n => obtain ⟨r, a, _, _, _, b⟩ := h1; have := b.det hself; show _ = _; omega
      | atom s => obtain ⟨i, _, b⟩ := h1; have := b.det hself; omega
      | int n => rcases h1 with ⟨_, b⟩ | ⟨_, _, _, r, _, _, _, b⟩ <;> have := b.det hself <;> unfold smallC at * <;> omega
      | cpx re im => obtain ⟨r, _, _, _, _, _, b⟩ := h1; have := b.det hself; omega
      | comp s args => obtain ⟨r, i, _, _, _, _, b, _⟩ := h1; have := b.det hself; omega
    refine ⟨h0, ?_, reps_set_not hl hp hw ts (q + 1) (by omega) (fun h => hn (Or.inr h)) h2⟩
    rw [getD_set, if_neg (by omega)]
    exact rep_set_not hl hp hw t _ (getD_pos hl _) (fun h => hn (Or.inl h)) h1
end
mutual
/-- A variable bound to a term in which it does not stand: each cell stands for its term with that in the variable's place. -/
theorem rep_set {p : Nat} {x : Int} {X : CT} (hl : Pos l) (hx0 : 0 ≤ x) (hp : l.getD p 0 = (p : Int) * 8) (hlt : p < l.length) (hw : ¬ W p) (hX : rep W l L X x) (hn : ¬ occ p X) : ∀ (t : CT) (c : Int), 0 ≤ c → rep W l L t c → rep W (l.set p x) L (subst (one p X) t) c
  | .var n, c, hc, h => by
    by_cases he : n = p
    · subst he
      obtain ⟨q, h1, h2, h3, h4, h5⟩ := h
      obtain rfl : p = q := by omega
      have hX' := rep_set_not (x := x) hl hp hw X x hx0 hn hX
      simp only [subst, one, if_true]
      have go : ∀ d, Ch (l.set p x) x d → Ch (l.set p x) c d := fun d hd => h5.set_same hc hl hp hlt hd
      cases X with
      | var n => obtain ⟨r, a1, a2, a3, a4, b⟩ := hX'; exact ⟨r, a1, a2, a3, a4, go _ b⟩
      | atom s => obtain ⟨i, a, b⟩ := hX'; exact ⟨i, a, go _ b⟩
      | int n =>
        rcases hX' with ⟨a, b⟩ | ⟨a1, a2, a3, r, a4, a5, a6, b⟩
        · exact Or.inl ⟨a, go _ b⟩
        · exact Or.inr ⟨a1, a2, a3, r, a4, a5, a6, go _ b⟩
      | cpx re im => obtain ⟨r, a1, a2, a3, a4, a5, b⟩ := hX'; exact ⟨r, a1, a2, a3, a4, a5, go _ b⟩
      | comp s args => obtain ⟨r, i, a1, a2, a3, a4, b, a5⟩ := hX'; exact ⟨r, i, a1, a2, a3, a4, go _ b, a5⟩
    · have h2 : subst (one p X) (.var n) = .var n := by simp only [subst, one]; rw [if_neg he]
      rw [h2]
      exact rep_set_not hl hp hw (.var n) c hc (fun h => he h.symm) h
  | .atom s, c, hc, h => rep_set_not hl hp hw (.atom s) c hc (fun h => h) h
  | .int n, c, hc, h => rep_set_not hl hp hw (.int n) c hc (fun h => h) h
  | .cpx re im, c, hc, h => rep_set_not hl hp hw (.cpx re im) c hc (fun h => h) h
  | .comp s args, c, hc, h => by
    obtain ⟨q, i, h1, h2, h3, h4, h5, h6⟩ := h
    have hne : q ≠ p := by rintro rfl; rw [hp] at h3; unfold funC at h3; omega
    refine ⟨q, i, by rw [List.length_set, substs_length]; exact h1, h2, by rw [getD_set, if_neg (by omega), substs_length]; exact h3, h4, h5.set_other hc hl hp (by omega), reps_set hl hx0 hp hlt hw hX hn args (q + 1) (by omega) h6⟩
theorem reps_set {p : Nat} {x : Int} {X : CT} (hl : Pos l) (hx0 : 0 ≤ x) (hp : l.getD p 0 = (p : Int) * 8) (hlt : p < l.length) (hw : ¬ W p) (hX : rep W l L X x) (hn : ¬ occ p X) : ∀ (ts : List CT) (q : Nat), q + ts.length ≤ l.length → reps W l L ts q → reps W (l.set p x) L (substs (one p X) ts) q
  | [], _, _, _ => trivial
  | t :: ts, q, hq, ⟨h0, h1, h2⟩ => by
    have hq' : q + (ts.length + 1) ≤ l.length := by simpa using hq
    refine ⟨h0, ?_, reps_set hl hx0 hp hlt hw hX hn ts (q + 1) (by omega) h2⟩
    rw [getD_set]
    by_cases he : p = q
    · subst he
      rw [if_pos ⟨rfl, hlt⟩]
      rw [hp] at h1
      have hself : Ch l ((p : Int) * 8) ((p : Int) * 8) := Ch.self (Or.inr (by rw [show ((p : Int) * 8 / 8).toNat = p by omega]; exact hp))
      have ht : t = .var p := by
        cases t with
        | var n => obtain ⟨r, a, _, _, _, b⟩ := h1; have := b.det hself; rw [a]; congr 1; omega
        | atom s => obtain ⟨i, _, b⟩ := h1; have := b.det hself; omega
        | int n => rcases h1 with ⟨_, b⟩ | ⟨_, _, _, r, _, _, _, b⟩ <;> have := b.det hself <;> unfold smallC at * <;> omega
        | cpx re im => obtain ⟨r, _, _, _, _, _, b⟩ := h1; have := b.det hself; omega
        | comp s args => obtain ⟨r, i, _, _, _, _, b, _⟩ := h1; have := b.det hself; omega
      subst ht
      have h2 : subst (one p X) (.var p) = X := by simp [subst, one]
      rw [h2]
      exact rep_set_not hl hp hw X x hx0 hn hX
    · rw [if_neg (by omega)]
      exact rep_set hl hx0 hp hlt hw hX hn t _ (getD_pos hl _) h1
end
end
end Go.Proofs.Ytlmcfclonncgbaa
