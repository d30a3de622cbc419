/- Which block is whose: a ghost map from blocks to owners. What a call on some owners' objects leaves of all other memory; the two kinds of things that an object is made of: a block known whole, a row that grows. -/
import Derived.WalkKit
import Derived.Below
import Derived.Laws.AppendOwn
import Derived.OwnWalk
import Derived.KernelRfl
import Derived.Lib.Hide
import Derived.Deep.Draws
import Derived.Maps.AppendAt
import Derived.Deep.AppendLies
namespace Go.Proofs.Ytlmcfclonncgbaa
open Go.RowKit

/-- From w to w': the streams stand, no block has gone; blocks keep their owners; of w's blocks only those of the owners in 'ids' may have turned. -/
structure Ext (o o' : Nat → Nat) (ids : List Nat) (w w' : World) : Prop where
  os : w'.os = w.os
  tape : w'.tape = w.tape
  output : w'.output = w.output
  size : w.heap.size ≤ w'.heap.size
  own : ∀ b, b < w.heap.size → o' b = o b
  block : ∀ b, b < w.heap.size → o b ∉ ids → w'.heap[b]? = w.heap[b]?

theorem Ext.refl (own : Nat → Nat) (ids : List Nat) (w : World) : Ext own own ids w w := ⟨rfl, rfl, rfl, Nat.le_refl _, fun _ _ => rfl, fun _ _ _ => rfl⟩

theorem Ext.mono {o o' : Nat → Nat} {ids jds : List Nat} {w w' : World} (h : Ext o o' ids w w') (hs : ∀ i, i ∈ ids → i ∈ jds) : Ext o o' jds w w' :=
  ⟨h.os, h.tape, h.output, h.size, h.own, fun b hb hn => h.block b hb (fun hi => hn (hs _ hi))⟩

theorem Ext.trans {o o1 o2 : Nat → Nat} {ids : List Nat} {w w1 w2 : World} (h : Ext o o1 ids w w1) (k : Ext o1 o2 ids w1 w2) : Ext o o2 ids w w2 :=
  ⟨k.os.trans h.os, k.tape.trans h.tape, k.output.trans h.output, Nat.le_trans h.size k.size,
    fun b hb => (k.own b (Nat.lt_of_lt_of_le hb h.size)).trans (h.own b hb),
    fun b hb hn => (k.block b (Nat.lt_of_lt_of_le hb h.size) (by rw [h.own b hb]; exact hn)).trans (h.block b hb hn)⟩

/-- The second step may touch owners that are none of the first world's. -/
theorem Ext.then {o o1 o2 : Nat → Nat} {ids jds kds : List Nat} {w w1 w2 : World} (h : Ext o o1 ids w w1) (k : Ext o1 o2 jds w1 w2) (hi : ∀ i, i ∈ ids → i ∈ kds) (hj : ∀ i, i ∈ jds → i ∈ kds) : Ext o o2 kds w w2 :=
  (h.mono hi).trans (k.mono hj)

theorem Ext.alloc {o o' : Nat → Nat} {ids : List Nat} {w w' : World} (h : Ext o o' ids w w') (x : Obj) : Ext o o' ids w (w'.alloc x) :=
  ⟨h.os, h.tape, h.output, by have := h.size; simp; omega, h.own, fun b hb hn => (Below.heap_alloc _ _ _ (Nat.lt_of_lt_of_le hb h.size)).trans (h.block b hb hn)⟩

theorem Ext.drew {o o' : Nat → Nat} {ids : List Nat} {w w' : World} (h : Ext o o' ids w w') : Ext o o' ids w w'.drew := ⟨h.os, h.tape, h.output, h.size, h.own, h.block⟩
theorem Ext.drewN {o o' : Nat → Nat} {ids : List Nat} {w w' : World} (h : Ext o o' ids w w') (n : Nat) : Ext o o' ids w (w'.drewN n) := ⟨h.os, h.tape, h.output, h.size, h.own, h.block⟩

theorem Ext.ofDrew {o o' : Nat → Nat} {ids : List Nat} {w w' : World} {n : Nat} (h : Ext o o' ids (w.drewN n) w') : Ext o o' ids w w' := ⟨h.os, h.tape, h.output, h.size, h.own, h.block⟩

theorem Ext.setCell {o o' : Nat → Nat} {ids : List Nat} {w w' : World} (h : Ext o o' ids w w') (p : Addr) (u : Value) (hp : p.block < w.heap.size → o p.block ∈ ids) : Ext o o' ids w (w'.setCell p u) :=
  ⟨h.os, h.tape, h.output, by have := h.size; simp [World.setCell]; omega, h.own, fun b hb hn => by
    refine (Below.heap_setCell _ _ _ _ (fun e => ?_)).trans (h.block b hb hn)
    subst e
    exact hn (hp hb)⟩

theorem Ext.grown {o o' : Nat → Nat} {ids : List Nat} {w w' w'' : World} {row : Option Nat} (h : Ext o o' ids w w') (hg : w'.grownBy w'' row) (hr : ∀ k, row = some k → k < w.heap.size → o k ∈ ids) : Ext o o' ids w w'' :=
  ⟨hg.os.trans h.os, hg.tape.trans h.tape, hg.output.trans h.output, Nat.le_trans h.size hg.size, h.own, fun b hb hn => by
    refine (hg.block b (Nat.lt_of_lt_of_le hb h.size) (fun e => ?_)).trans (h.block b hb hn)
    exact hn (hr b e.symm hb)⟩

/-- A block that is new is given to an owner. -/
def give (own : Nat → Nat) (b id : Nat) : Nat → Nat := fun k => if k = b then id else own k
theorem give_same (own : Nat → Nat) (b id : Nat) : give own b id b = id := by simp [give]
theorem give_other {own : Nat → Nat} {b id k : Nat} (h : k ≠ b) : give own b id k = own k := by simp [give, h]
theorem Ext.give {o o' : Nat → Nat} {ids : List Nat} {w w' : World} (h : Ext o o' ids w w') (b id : Nat) (hb : w.heap.size ≤ b) : Ext o (give o' b id) ids w w' :=
  ⟨h.os, h.tape, h.output, h.size, fun k hk => (give_other (by omega)).trans (h.own k hk), h.block⟩

/-- All blocks from B on are given to one owner. -/
def giveFrom (own : Nat → Nat) (B id : Nat) : Nat → Nat := fun k => if B ≤ k then id else own k
theorem Ext.giveFrom {o o' : Nat → Nat} {ids : List Nat} {w w' : World} (h : Ext o o' ids w w') (B id : Nat) (hb : w.heap.size ≤ B) : Ext o (giveFrom o' B id) ids w w' :=
  ⟨h.os, h.tape, h.output, h.size, fun k hk => by unfold Ytlmcfclonncgbaa.giveFrom; rw [if_neg (by omega)]; exact h.own k hk, h.block⟩

theorem Ext.below {o o' : Nat → Nat} {ids : List Nat} {w w' : World} (h : Ext o o' ids w w') (h0 : ∀ b, b < w.heap.size → o b = 0) (hi : 0 ∉ ids) : Below w.heap.size w w' :=
  ⟨h.os, h.tape, h.output, h.size, fun b hb => h.block b hb (by rw [h0 b hb]; exact hi)⟩

theorem Ext.of_below {o : Nat → Nat} {w w' : World} (h : Below w.heap.size w w') (ids : List Nat) : Ext o o ids w w' := ⟨h.os, h.tape, h.output, h.size, fun _ _ => rfl, fun b hb _ => h.block b hb⟩

/-- What is 0's (what came in) is as it was. -/
theorem Ext.came {o o' : Nat → Nat} {ids : List Nat} {w w' : World} {B : Nat} (h : Ext o o' ids w w') (hB : B ≤ w.heap.size) (h0 : ∀ b, b < B → o b = 0) (hi : 0 ∉ ids) : Below B w w' :=
  ⟨h.os, h.tape, h.output, h.size, fun b hb => h.block b (Nat.lt_of_lt_of_le hb hB) (by rw [h0 b hb]; exact hi)⟩
theorem Ext.came_own {o o' : Nat → Nat} {ids : List Nat} {w w' : World} {B : Nat} (h : Ext o o' ids w w') (hB : B ≤ w.heap.size) (h0 : ∀ b, b < B → o b = 0) : ∀ b, b < B → o' b = 0 :=
  fun b hb => (h.own b (Nat.lt_of_lt_of_le hb hB)).trans (h0 b hb)

/-- A block known whole, and whose it is. -/
def Blk (own : Nat → Nat) (id : Nat) (w : World) (b : Nat) (cs : List Value) (t : TypeId) : Prop := w.heap[b]? = some (.cells cs.toArray t (0, 0)) ∧ own b = id

section
variable {own own' : Nat → Nat} {id b : Nat} {ids : List Nat} {w w' : World} {cs : List Value} {t : TypeId}
theorem Blk.lt (h : Blk own id w b cs t) : b < w.heap.size := (Array.getElem?_eq_some_iff.1 h.1).1
theorem Blk.keep (h : Blk own id w b cs t) (x : Ext own own' ids w w') (hi : id ∉ ids) : Blk own' id w' b cs t :=
  ⟨(x.block b h.lt (by rw [h.2]; exact hi)).trans h.1, (x.own b h.lt).trans h.2⟩
theorem Blk.cell (h : Blk own id w b cs t) (i : Nat) {v : Value} (hv : cs[i]? = some v) : w.cell? ⟨b, i, none⟩ = some v := by
  rw [cell_of_row w b i cs.toArray t (0, 0) h.1]; simpa using hv
theorem Blk.free (h : Blk own id w b cs t) (i : Nat) : w.frozen? ⟨b, i, none⟩ = false := by simp [World.frozen?, h.1]
theorem Blk.set (h : Blk own id w b cs t) (i : Nat) (u : Value) : Blk own id (w.setCell ⟨b, i, none⟩ u) b (cs.set i u) t := by
  refine ⟨?_, h.2⟩
  simp [World.setCell, Array.getElem?_modify, h.1]
theorem Blk.far (h : Blk own id w b cs t) {p : Addr} (hp : p.block ≠ b) (u : Value) : Blk own id (w.setCell p u) b cs t :=
  ⟨(Below.heap_setCell w p u b (Ne.symm hp)).trans h.1, h.2⟩
theorem Blk.ne {id' b' : Nat} {cs' : List Value} {t' : TypeId} (h : Blk own id w b cs t) (h' : Blk own id' w b' cs' t') (hi : id ≠ id') : b ≠ b' := by
  intro e; subst e; exact hi (h.2.symm.trans h'.2)
theorem Blk.ne_type {id' b' : Nat} {cs' : List Value} {t' : TypeId} (h : Blk own id w b cs t) (h' : Blk own id' w b' cs' t') (ht : t ≠ t') : b ≠ b' := by
  intro e; subst e
  have := h.1.symm.trans h'.1
  simp at this
  exact ht this.2
theorem Blk.alloc (h : Blk own id w b cs t) (o : Obj) : Blk own id (w.alloc o) b cs t := ⟨(Below.heap_alloc w o b h.lt).trans h.1, h.2⟩
theorem Blk.drew (h : Blk own id w b cs t) : Blk own id w.drew b cs t := h
end

/-- A row that one's own calls have made and let grow, and whose it is. -/
def Row (own : Nat → Nat) (id : Nat) (w : World) (e : TypeId) (size : Nat) (v : Value) (n : Nat) (xs : List Value) : Prop :=
  w.ownsRow 0 e size v n xs ∧ ∀ k, v.ownBlock = some k → own k = id

section
variable {own own' : Nat → Nat} {id : Nat} {ids : List Nat} {w w' : World} {e : TypeId} {size n : Nat} {v : Value} {xs : List Value}
theorem Row.lt (h : Row own id w e size v n xs) : ∀ k, v.ownBlock = some k → k < w.heap.size := fun k hk => (h.1.lt k hk).2
theorem ownsRow_move {base : Nat} (h : w.ownsRow base e size v n xs) (hm : ∀ k, v.ownBlock = some k → w'.heap[k]? = w.heap[k]?) : w'.ownsRow base e size v n xs := by
  refine ⟨h.1, ?_⟩
  rcases h.2 with h2 | ⟨g, cap, cur, hv, hg, hh, r⟩
  · exact Or.inl h2
  · exact Or.inr ⟨g, cap, cur, hv, hg, (hm g (by rw [hv]; rfl)).trans hh, r⟩
theorem Row.keep (h : Row own id w e size v n xs) (x : Ext own own' ids w w') (hi : id ∉ ids) : Row own' id w' e size v n xs :=
  ⟨ownsRow_move h.1 (fun k hk => x.block k (h.lt k hk) (by rw [h.2 k hk]; exact hi)), fun k hk => (x.own k (h.lt k hk)).trans (h.2 k hk)⟩
theorem Row.alloc (h : Row own id w e size v n xs) (o : Obj) : Row own id (w.alloc o) e size v n xs := ⟨h.1.alloc o, h.2⟩
theorem Row.drew (h : Row own id w e size v n xs) : Row own id w.drew e size v n xs := ⟨h.1.drew, h.2⟩
theorem Row.nil (own : Nat → Nat) (id : Nat) (w : World) (e : TypeId) (size : Nat) : Row own id w e size (.slice none 0 0) 0 [] :=
  ⟨w.ownsRow_nil 0 e size, fun k hk => by simp [Value.ownBlock] at hk⟩
theorem Row.far (h : Row own id w e size v n xs) {p : Addr} (hp : v.ownBlock ≠ some p.block) (u : Value) : Row own id (w.setCell p u) e size v n xs :=
  ⟨ownsRow_move h.1 (fun k hk => Below.heap_setCell w p u k (fun e => hp (by rw [hk, e]))), h.2⟩
/-- The block of a row is none of a struct's. -/
theorem Row.ne_blk {id' b : Nat} {cs : List Value} {t : TypeId} (h : Row own id w e size v n xs) (h' : Blk own id' w b cs t) (ht : e ≠ t) : v.ownBlock ≠ some b := by
  intro hk
  rcases h.1.2 with ⟨rfl, _⟩ | ⟨g, cap, cur, rfl, _, hh, _⟩
  · simp [Value.ownBlock] at hk
  · simp [Value.ownBlock] at hk
    subst hk
    have := hh.symm.trans h'.1
    simp at this
    exact ht this.2
theorem Row.ne_id {id' b : Nat} {cs : List Value} {t : TypeId} (h : Row own id w e size v n xs) (h' : Blk own id' w b cs t) (ht : id ≠ id') : v.ownBlock ≠ some b :=
  fun hk => ht ((h.2 b hk).symm.trans h'.2)
/-- The value of a row: a slice of its length. -/
theorem Row.form (h : Row own id w e size v n xs) : ∃ A c, v = .slice A n c ∧ n ≤ c := by
  rcases h.1.2 with ⟨rfl, rfl⟩ | ⟨g, cap, cur, rfl, _, _, hc, _⟩
  · exact ⟨none, 0, rfl, Nat.le_refl _⟩
  · exact ⟨_, cap, rfl, hc⟩
theorem Row.form_pos (h : Row own id w e size v n xs) (hn : 0 < n) : ∃ g c, v = .slice (some ⟨g, 0, none⟩) n c ∧ n ≤ c := by
  rcases h.1.2 with ⟨rfl, rfl⟩ | ⟨g, cap, cur, rfl, _, _, hc, _⟩
  · omega
  · exact ⟨g, cap, rfl, hc⟩
theorem Row.cell {g c : Nat} (h : Row own id w e size (.slice (some ⟨g, 0, none⟩) n c) n xs) (j : Nat) {u : Value} (hu : xs[j]? = some u) : w.cell? ⟨g, j, none⟩ = some u := by
  have := h.1.cells (g := g) rfl j u hu
  have e : (⟨g, 0, none⟩ : Addr).add j = ⟨g, j, none⟩ := by unfold Addr.add; split <;> simp_all
  rwa [e] at this
theorem Row.free {g c : Nat} (h : Row own id w e size (.slice (some ⟨g, 0, none⟩) n c) n xs) (j : Nat) : w.frozen? ⟨g, j, none⟩ = false := by
  rcases h.1.2 with ⟨hv, _⟩ | ⟨g', cap, cur, hv, _, hh, _⟩
  · cases hv
  · simp at hv; obtain ⟨rfl, _⟩ := hv
    simp [World.frozen?, hh]
theorem Row.set {g c : Nat} (h : Row own id w e size (.slice (some ⟨g, 0, none⟩) n c) n xs) (j : Nat) (u : Value) : Row own id (w.setCell ⟨g, j, none⟩ u) e size (.slice (some ⟨g, 0, none⟩) n c) n (xs.set j u) := by
  refine ⟨⟨by simpa using h.1.1, ?_⟩, h.2⟩
  rcases h.1.2 with ⟨hv, _⟩ | ⟨g', cap, cur, hv, h0, hh, h1, h2, h3, h4⟩
  · cases hv
  · simp only [Value.slice.injEq, Option.some.injEq, Addr.mk.injEq, and_true, true_and] at hv
    obtain ⟨rfl, rfl⟩ := hv
    refine Or.inr ⟨g, c, cur.setIfInBounds j u, rfl, Nat.zero_le _, by simp [World.setCell, Array.getElem?_modify, hh], h1, h2, by simpa using h3, ?_⟩
    rw [← h4]
    simp [List.take_set]
/-- A row cut shorter. -/
theorem Row.cut {A : Option Addr} {c m : Nat} (h : Row own id w e size (.slice A n c) n xs) (hm : m ≤ n) : Row own id w e size (.slice A m c) m (xs.take (m * size)) := by
  refine ⟨⟨?_, ?_⟩, fun k hk => h.2 k (by cases A with | none => simp [Value.ownBlock] at hk | some a => simpa [Value.ownBlock] using hk)⟩
  · rw [List.length_take, h.1.1]
    exact Nat.min_eq_left (Nat.mul_le_mul_right _ hm)
  · rcases h.1.2 with ⟨hv, rfl⟩ | ⟨g', cap, cur, hv, h0, hh, h1, h2, h3, h4⟩
    · simp at hv; obtain ⟨rfl, rfl⟩ := hv
      obtain rfl : m = 0 := by omega
      exact Or.inl ⟨rfl, rfl⟩
    · simp only [Value.slice.injEq, true_and] at hv
      obtain ⟨rfl, rfl⟩ := hv
      refine Or.inr ⟨g', c, cur, rfl, Nat.zero_le _, hh, by omega, h2, h3, ?_⟩
      rw [← h4, List.take_take, Nat.min_eq_left (Nat.mul_le_mul_right _ hm)]
end

/-- What a call does: some new map of owners, the frame, and what is said of its end. -/
def Does (own : Nat → Nat) (ids : List Nat) (w : World) (R : (Nat → Nat) → Ending → World → Prop) (e : Ending) (w' : World) : Prop :=
  ∃ own', Ext own own' ids w w' ∧ R own' e w'

theorem cell_one_new' (w : World) (v : Value) (E : TypeId) : ∀ j u, [v][j]? = some u → (w.alloc (.cells #[v] E)).cell? ((⟨w.heap.size, 0, none⟩ : Addr).add j) = some u := by
  intro j u hj
  match j, hj with
  | 0, hj => simp at hj; subst hj; simp [Addr.add]
theorem one_cell' (v : Value) (h : v.oneCell' = true) : ∀ u ∈ [v], u.oneCell' = true := by
  intro u hu; simp at hu; subst hu; exact h

/-- 'append(xs, y)' on a row of one's own, y a value of any kind: behind it the row is one longer, wherever it now lies; no other block of the owner's has turned. W: the world ahead of the one-element block that the translation lays for y. -/
theorem run_append_row {P : Program} (t ty e : TypeId) (z : Value) (size bytes : Nat)
    (ht : P.underlying t = some (.slice e)) (hinfo : (P.info? e).map (fun i => (i.zero, i.size, i.bytes)) = some (some z, size, bytes)) (hz : z.cells.size = size) (hs0 : 0 < size) (hb0 : 0 < bytes)
    {own : Nat → Nat} {id n : Nat} {W : World} {v : Value} {xs ys : List Value} (hys : ys.length = size) (h1 : ∀ u ∈ ys, u.oneCell' = true)
    (HO : Row own id W e size v n xs) (hl : (n + 1) * bytes ≤ 140737488355328) :
    ∃ g cap w1 own1, (Builtin.append_ #[t, t] ty #[v, .slice (some ⟨W.heap.size, 0, none⟩) 1 1]).run P (W.alloc (.cells ys.toArray e)) = .ok (.slice (some ⟨g, 0, none⟩) (n + 1) cap) w1 ∧
      Row own1 id w1 e size (.slice (some ⟨g, 0, none⟩) (n + 1) cap) (n + 1) (xs ++ ys) ∧ Ext own own1 [id] W w1 ∧ (∀ b cs t', Blk own id W b cs t' → e ≠ t' → Blk own1 id w1 b cs t') ∧
      (∀ id' e' size' v' n' xs', Row own id' W e' size' v' n' xs' → (e' ≠ e ∨ id' ≠ id) → Row own1 id' w1 e' size' v' n' xs') := by
  obtain ⟨i0, hi, hzz⟩ := Option.map_eq_some_iff.1 hinfo
  simp only [Prod.mk.injEq] at hzz
  obtain ⟨hz0, hz1, hz2⟩ := hzz
  have hlen : n + 1 ≤ 140737488355328 := Nat.le_trans (Nat.le_mul_of_pos_right _ hb0) hl
  obtain ⟨v1, w1, hr, hown, hg, _, hat⟩ := run_append_own_at (P := P) (W.alloc (.cells ys.toArray e)) 0 t ty e i0 z size bytes ht hi hz0 hz1 hz2 hz hs0 v n xs (HO.1.alloc _) ⟨W.heap.size, 0, none⟩ 1 1 ys (by rw [hys]; simp)
    (by simpa using World.news_of_block (cs := ys.toArray) (t := e) (fr := (0, 0)) (heap_alloc_new W (.cells ys.toArray e))) h1 (by simp only [maxLen]; omega) hl (by simp)
  obtain ⟨g, cap, rfl⟩ : ∃ g cap, v1 = .slice (some ⟨g, 0, none⟩) (n + 1) cap := by
    rcases hown.2 with ⟨_, h⟩ | ⟨g, cap, _, h, _⟩
    · omega
    · exact ⟨g, cap, h⟩
  have hx0 : Ext own own [id] W w1 := ((Ext.refl own [id] W).alloc _).grown hg (fun k hk hlt => by rw [HO.2 k hk]; simp)
  refine ⟨g, cap, w1, giveFrom own W.heap.size id, hr, ⟨hown, ?_⟩, hx0.giveFrom _ id (Nat.le_refl _), ?_, ?_⟩
  · intro k hk
    unfold giveFrom
    by_cases hlt : W.heap.size ≤ k
    · rw [if_pos hlt]
    · rw [if_neg hlt]
      rcases hat with hat | hat
      · exact HO.2 k (hat.symm.trans hk)
      · rw [hat] at hk; simp at hk; omega
  · intro b cs t' hb hne
    refine ⟨(hg.block b (by have := hb.lt; simp; omega) (fun e => HO.ne_blk hb hne e.symm)).trans ((Below.heap_alloc _ _ _ hb.lt).trans hb.1), ?_⟩
    unfold giveFrom
    rw [if_neg (by have := hb.lt; omega)]
    exact hb.2
  · intro id' e' size' v' n' xs' hr' hne
    refine ⟨ownsRow_move hr'.1 (fun k hk => ?_), fun k hk => ?_⟩
    · have hlt := hr'.lt k hk
      refine (hg.block k (by simp; omega) (fun e => ?_)).trans (Below.heap_alloc _ _ _ hlt)
      rcases hne with hne | hne
      · obtain ⟨_, _, cur, _, _, hh, _⟩ := HO.1.2.resolve_left (fun h => by rw [h.1] at e; simp [Value.ownBlock] at e)
        obtain ⟨_, _, cur', _, _, hh', _⟩ := hr'.1.2.resolve_left (fun h => by rw [h.1] at hk; simp [Value.ownBlock] at hk)
        simp_all [Value.ownBlock]
      · exact hne ((hr'.2 k hk).symm.trans (HO.2 k e.symm))
    · unfold giveFrom
      rw [if_neg (by have := hr'.lt k hk; omega)]
      exact hr'.2 k hk

theorem wpList_append_row {P : Program} {ops : Array Oper} {rest : List Oper} {o : Oper} {a : Act} {Q : Exit → Act → World → Prop} (hgd : o.guard = none) (s x : Operand) (t : TypeId)
    (ho : o.op = .call { callee := .builtin .append, args := #[s, x], argTypes := #[t, t] }) (e : TypeId) (z : Value) (size bytes : Nat)
    (ht : P.underlying t = some (.slice e)) (hinfo : (P.info? e).map (fun i => (i.zero, i.size, i.bytes)) = some (some z, size, bytes)) (hz : z.cells.size = size) (hs0 : 0 < size) (hb0 : 0 < bytes)
    {own : Nat → Nat} {id n : Nat} {W : World} {v : Value} {xs ys : List Value} (hs : a.eval s = v) (hx : a.eval x = .slice (some ⟨W.heap.size, 0, none⟩) 1 1) (hys : ys.length = size) (h1 : ∀ u ∈ ys, u.oneCell' = true)
    (HO : Row own id W e size v n xs) (hl : (n + 1) * bytes ≤ 140737488355328)
    (h : ∀ g cap w1 own1, Row own1 id w1 e size (.slice (some ⟨g, 0, none⟩) (n + 1) cap) (n + 1) (xs ++ ys) → Ext own own1 [id] W w1 → (∀ b cs t', Blk own id W b cs t' → e ≠ t' → Blk own1 id w1 b cs t') →
      (∀ id' e' size' v' n' xs', Row own id' W e' size' v' n' xs' → (e' ≠ e ∨ id' ≠ id) → Row own1 id' w1 e' size' v' n' xs') → wpList P ops Q rest (a.put o.dst (.slice (some ⟨g, 0, none⟩) (n + 1) cap)) w1) :
    wpList P ops Q (o :: rest) a (W.alloc (.cells ys.toArray e)) := by
  refine wpList_plain hgd fun K hK => ?_
  obtain ⟨g, cap, w1, own1, hr, h2, h3, h4, h5⟩ := run_append_row (P := P) t o.type e z size bytes ht hinfo hz hs0 hb0 hys h1 HO hl
  unfold Oper.wp execOp
  simp only [ho, resolve, invoke, builtin, Sem.run_bind, Sem.run_pure, Result.andThen_ok, List.map_toArray, List.map_cons, List.map_nil, hs, hx, hr]
  exact hK _ _ (h g cap w1 own1 h2 h3 h4 h5)

end Go.Proofs.Ytlmcfclonncgbaa
