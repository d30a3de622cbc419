/- Small additions on frames: draws ahead of a frame are none; a frame as one of owners. -/
import Derived.Test.YtlmcfclonncgbaaMem
import Derived.Test.YtlmcfclonncgbaaBits
import Derived.Deep.RegionLaw
namespace Go.Proofs.Ytlmcfclonncgbaa
open Go.RowKit

theorem below_ofDrew {B n : Nat} {w w' : World} (h : Below B (w.drewN n) w') : Below B w w' := ⟨h.os, h.tape, h.output, h.size, h.block⟩
theorem below_drewN {B n : Nat} {w w' : World} (h : Below B w w') : Below B w (w'.drewN n) := ⟨h.os, h.tape, h.output, h.size, h.block⟩
/-- A call that leaves all that was there: as a frame of owners. -/
theorem Ext.belowStep {o o' : Nat → Nat} {ids : List Nat} {w w1 w2 : World} (h : Ext o o' ids w w1) (hb : Below w1.heap.size w1 w2) : Ext o o' ids w w2 := h.trans (Ext.of_below hb ids)

/-- 'int(uint64(a) % k)': a number from 0 on, below k. -/
theorem mod_nat (a k : Int) (hk : 0 < k) (hk2 : k ≤ 4611686018427387904) : ∃ m : Nat, wrap64 ((IntKind.u64.wrap a).tmod k) = m ∧ (m : Int) < k := by
  have h0 : 0 ≤ IntKind.u64.wrap a := by rw [wrap_u64]; omega
  rw [tmod_pos _ _ h0]
  have h1 := Int.emod_nonneg (IntKind.u64.wrap a) (show k ≠ 0 by omega)
  have h2 := Int.emod_lt_of_pos (IntKind.u64.wrap a) hk
  rw [wrap64_in _ (by omega) (by omega)]
  exact ⟨(IntKind.u64.wrap a % k).toNat, by omega, by omega⟩
/-- At the start everything is what came in. -/
def own0 : Nat → Nat := fun _ => 0
theorem Ext.done {o : Nat → Nat} {ids : List Nat} {w w' : World} (h : Ext own0 o ids w w') (hi : 0 ∉ ids) : Below w.heap.size w w' := h.below (fun _ _ => rfl) hi


/-- 'append(xs, y)' on a row of one's own that was met in W0, in a later world W: y's box lies where it will. -/
theorem run_append_later {P : Program} (t ty e : TypeId) (z : Value) (size bytes : Nat)
    (ht : P.underlying t = some (.slice e)) (hinfo : (P.info? e).map (fun i => (i.zero, i.size, i.bytes)) = some (some z, size, bytes)) (hz : z.cells.size = size) (hs0 : 0 < size) (hb0 : 0 < bytes)
    {own : Nat → Nat} {id n : Nat} {W0 W : World} {v : Value} {xs ys : List Value} (bx : Addr) (hys : ys.length = size) (h1 : ∀ u ∈ ys, u.oneCell' = true)
    (HO : Row own id W0 e size v n xs) (HB : Below W0.heap.size W0 W) (hnews : ∀ j u, ys[j]? = some u → W.cell? (bx.add j) = some u) (hl : (n + 1) * bytes ≤ 140737488355328) :
    ∃ g cap w1 own1, (Builtin.append_ #[t, t] ty #[v, .slice (some bx) 1 1]).run P W = .ok (.slice (some ⟨g, 0, none⟩) (n + 1) cap) w1 ∧
      Row own1 id w1 e size (.slice (some ⟨g, 0, none⟩) (n + 1) cap) (n + 1) (xs ++ ys) ∧ Ext own own1 [id] W0 w1 ∧ (∀ b cs t', Blk own id W0 b cs t' → e ≠ t' → Blk own1 id w1 b cs t') ∧
      (∀ id' e' size' v' n' xs', Row own id' W0 e' size' v' n' xs' → (e' ≠ e ∨ id' ≠ id) → Row own1 id' w1 e' size' v' n' xs') ∧
      (W.heap.size ≤ w1.heap.size ∧ ∀ b, W0.heap.size ≤ b → b < W.heap.size → w1.heap[b]? = W.heap[b]?) := by
  obtain ⟨i0, hi, hzz⟩ := Option.map_eq_some_iff.1 hinfo
  simp only [Prod.mk.injEq] at hzz
  obtain ⟨hz0, hz1, hz2⟩ := hzz
  have hlen : n + 1 ≤ 140737488355328 := Nat.le_trans (Nat.le_mul_of_pos_right _ hb0) hl
  have HW : W.ownsRow 0 e size v n xs := ownsRow_move HO.1 (fun k hk => HB.block k (HO.lt k hk))
  obtain ⟨v1, w1, hr, hown, hg, _, hat⟩ := run_append_own_at (P := P) W 0 t ty e i0 z size bytes ht hi hz0 hz1 hz2 hz hs0 v n xs HW bx 1 1 ys (by rw [hys]; simp) hnews h1 (by simp only [maxLen]; omega) hl (by simp)
  obtain ⟨g, cap, rfl⟩ : ∃ g cap, v1 = .slice (some ⟨g, 0, none⟩) (n + 1) cap := by
    rcases hown.2 with ⟨_, h⟩ | ⟨g, cap, _, h, _⟩
    · omega
    · exact ⟨g, cap, h⟩
  have hsz := HB.size
  have hx0 : Ext own own [id] W0 w1 := (Ext.of_below (o := own) HB [id]).grown hg (fun k hk hlt => by rw [HO.2 k hk]; simp)
  refine ⟨g, cap, w1, giveFrom own W0.heap.size id, hr, ⟨hown, ?_⟩, hx0.giveFrom _ id (Nat.le_refl _), ?_, ?_, hg.size, ?_⟩
  · intro k hk
    unfold giveFrom
    by_cases hlt : W0.heap.size ≤ k
    · rw [if_pos hlt]
    · rw [if_neg hlt]
      rcases hat with hat | hat
      · exact HO.2 k (hat.symm.trans hk)
      · rw [hat] at hk; simp at hk; omega
  · intro b cs t' hb hne
    have hlt := hb.lt
    refine ⟨(hg.block b (by omega) (fun e => HO.ne_blk hb hne e.symm)).trans ((HB.block b hlt).trans hb.1), ?_⟩
    unfold giveFrom
    rw [if_neg (by omega)]
    exact hb.2
  · intro id' e' size' v' n' xs' hr' hne
    refine ⟨ownsRow_move hr'.1 (fun k hk => ?_), fun k hk => ?_⟩
    · have hlt := hr'.lt k hk
      refine (hg.block k (by omega) (fun e => ?_)).trans (HB.block k hlt)
      rcases hne with hne | hne
      · obtain ⟨_, _, cur, _, _, hh, _⟩ := HO.1.2.resolve_left (fun h => by rw [h.1] at e; simp [Value.ownBlock] at e)
        obtain ⟨_, _, cur', _, _, hh', _⟩ := hr'.1.2.resolve_left (fun h => by rw [h.1] at hk; simp [Value.ownBlock] at hk)
        simp_all [Value.ownBlock]
      · exact hne ((hr'.2 k hk).symm.trans (HO.2 k e.symm))
    · unfold giveFrom
      rw [if_neg (by have := hr'.lt k hk; omega)]
      exact hr'.2 k hk
  · intro b hb0' hb1
    exact hg.block b hb1 (fun e => by have := HO.lt b e.symm; omega)

/-- The same as one step of a region that draws its order. -/
theorem step_append_later {P : Program} {ops : Array Oper} {o : Oper} {a : Act} {K : Act → World → Prop} {Q : Exit → Act → World → Prop} {E : Prop} (hgd : o.guard = none) (s x : Operand) (t : TypeId)
    (ho : o.op = .call { callee := .builtin .append, args := #[s, x], argTypes := #[t, t] }) (e : TypeId) (z : Value) (size bytes : Nat)
    (ht : P.underlying t = some (.slice e)) (hinfo : (P.info? e).map (fun i => (i.zero, i.size, i.bytes)) = some (some z, size, bytes)) (hz : z.cells.size = size) (hs0 : 0 < size) (hb0 : 0 < bytes)
    {own : Nat → Nat} {id n : Nat} {W0 W : World} {v : Value} {xs ys : List Value} (hs : a.eval s = v) (bx : Addr) (hx : a.eval x = .slice (some bx) 1 1) (hys : ys.length = size) (h1 : ∀ u ∈ ys, u.oneCell' = true)
    (HO : Row own id W0 e size v n xs) (HB : Below W0.heap.size W0 W) (hnews : ∀ j u, ys[j]? = some u → W.cell? (bx.add j) = some u) (hl : (n + 1) * bytes ≤ 140737488355328)
    (h : ∀ g cap w1 own1, Row own1 id w1 e size (.slice (some ⟨g, 0, none⟩) (n + 1) cap) (n + 1) (xs ++ ys) → Ext own own1 [id] W0 w1 → (∀ b cs t', Blk own id W0 b cs t' → e ≠ t' → Blk own1 id w1 b cs t') →
      (∀ id' e' size' v' n' xs', Row own id' W0 e' size' v' n' xs' → (e' ≠ e ∨ id' ≠ id) → Row own1 id' w1 e' size' v' n' xs') → (W.heap.size ≤ w1.heap.size ∧ ∀ b, W0.heap.size ≤ b → b < W.heap.size → w1.heap[b]? = W.heap[b]?) →
      K (a.put o.dst (.slice (some ⟨g, 0, none⟩) (n + 1) cap)) w1) :
    if Region.wanted o (yielded ops a.tmps) = true then Oper.wp P o a W K Q else E := by
  have hw : Region.wanted o (yielded ops a.tmps) = true := by simp [Region.wanted, hgd]
  rw [if_pos hw]
  obtain ⟨g, cap, w1, own1, hr, h2, h3, h4, h5, h6⟩ := run_append_later (P := P) t o.type e z size bytes ht hinfo hz hs0 hb0 bx hys h1 HO HB hnews hl
  unfold Oper.wp execOp
  simp only [ho, resolve, invoke, builtin, Sem.run_bind, Sem.run_pure, Result.andThen_ok, List.map_toArray, List.map_cons, List.map_nil, hs, hx, hr]
  exact h g cap w1 own1 h2 h3 h4 h5 h6

end Go.Proofs.Ytlmcfclonncgbaa
