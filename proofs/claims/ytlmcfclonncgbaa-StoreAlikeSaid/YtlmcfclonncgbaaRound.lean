/- An append on a row, as one step; a region that draws its order, within a round. -/
import Derived.Test.YtlmcfclonncgbaaBackward
import Derived.Test.YtlmcfclonncgbaaMem2
import Derived.Deep.RegionHeldLaw
namespace Go.Proofs.Ytlmcfclonncgbaa
open Go.RowKit
set_option linter.unusedVariables false

theorem run_append_rowB {P : Program} (t ty e : TypeId) (z : Value) (size bytes : Nat)
    (ht : P.underlying t = some (.slice e)) (hinfo : (P.info? e).map (fun i => (i.zero, i.size, i.bytes)) = some (some z, size, bytes)) (hz : z.cells.size = size) (hs0 : 0 < size) (hb0 : 0 < bytes)
    {own : Nat → Nat} {id n : Nat} {W : World} {v : Value} {xs ys : List Value} (hys : ys.length = size) (h1 : ∀ u ∈ ys, u.oneCell' = true)
    (HO : Row own id W e size v n xs) (hl : (n + 1) * bytes ≤ 140737488355328) :
    ∃ g cap w1 own1, (Builtin.append_ #[t, t] ty #[v, .slice (some ⟨W.heap.size, 0, none⟩) 1 1]).run P (W.alloc (.cells ys.toArray e)) = .ok (.slice (some ⟨g, 0, none⟩) (n + 1) cap) w1 ∧
      Row own1 id w1 e size (.slice (some ⟨g, 0, none⟩) (n + 1) cap) (n + 1) (xs ++ ys) ∧ Ext own own1 [id] W w1 ∧ KeepsOthers W w1 ∧ (∀ b cs t', Blk own id W b cs t' → e ≠ t' → Blk own1 id w1 b cs t') := by
  obtain ⟨g1, cap1, w1, own1, hr1, _, _, hk⟩ := run_append_rowK (P := P) t ty e z size bytes ht hinfo hz hs0 hb0 hys h1 HO hl
  obtain ⟨g, cap, w2, own2, hr2, h2, h3, h4, _, _⟩ := run_append_later (P := P) t ty e z size bytes ht hinfo hz hs0 hb0 (W := W.alloc (.cells ys.toArray e)) ⟨W.heap.size, 0, none⟩ hys h1 HO ((Below.refl _ _).alloc (Nat.le_refl _) _)
    (by simpa using World.news_of_block (cs := ys.toArray) (t := e) (fr := (0, 0)) (heap_alloc_new W (.cells ys.toArray e))) hl
  rw [hr1] at hr2
  cases hr2
  exact ⟨_, _, _, own2, hr1, h2, h3, hk, h4⟩

theorem wanted_step {c : Prop} [Decidable c] {A E : Prop} (hc : c) (h : A) : if c then A else E := by rw [if_pos hc]; exact h
/-- The same as one step of a region that draws its order. -/
theorem wp_append_row {P : Program} {o : Oper} {a : Act} {W' : World} {K : Act → World → Prop} {Q : Exit → Act → World → Prop} (s x : Operand) (t : TypeId)
    (ho : o.op = .call { callee := .builtin .append, args := #[s, x], argTypes := #[t, t] }) (e : TypeId) (z : Value) (size bytes : Nat)
    (ht : P.underlying t = some (.slice e)) (hinfo : (P.info? e).map (fun i => (i.zero, i.size, i.bytes)) = some (some z, size, bytes)) (hz : z.cells.size = size) (hs0 : 0 < size) (hb0 : 0 < bytes)
    {own : Nat → Nat} {id n : Nat} (W : World) {v : Value} {xs : List Value} (ys : List Value) (hW : W' = W.alloc (.cells ys.toArray e)) (hs : a.eval s = v) (hx : a.eval x = .slice (some ⟨W.heap.size, 0, none⟩) 1 1) (hys : ys.length = size) (h1 : ∀ u ∈ ys, u.oneCell' = true)
    (HO : Row own id W e size v n xs) (hl : (n + 1) * bytes ≤ 140737488355328)
    (h : ∀ g cap w1 own1, Row own1 id w1 e size (.slice (some ⟨g, 0, none⟩) (n + 1) cap) (n + 1) (xs ++ ys) → Ext own own1 [id] W w1 → KeepsOthers W w1 → (∀ b cs t', Blk own id W b cs t' → e ≠ t' → Blk own1 id w1 b cs t') →
      K (a.put o.dst (.slice (some ⟨g, 0, none⟩) (n + 1) cap)) w1) : Oper.wp P o a W' K Q := by
  subst hW
  obtain ⟨g, cap, w1, own1, hr, h2, h3, h4, h5⟩ := run_append_rowB (P := P) t o.type e z size bytes ht hinfo hz hs0 hb0 hys h1 HO hl
  unfold Oper.wp execOp
  simp only [ho, resolve, invoke, builtin, Sem.run_bind, Sem.run_pure, Result.andThen_ok, List.map_toArray, List.map_cons, List.map_nil, hs, hx, hr]
  exact h g cap w1 own1 h2 h3 h4 h5

/-- An operation that defers nothing, within a round. -/
theorem oper_inRound {l n : Nat} {P : Program} {o : Oper} {a : Act} {w : World} {next next' : Act → World → Prop} {Q : Exit → Act → World → Prop} (hd : ∀ c, o.op ≠ .defer c) (hQ : ¬ LetsOut Q)
    (h : o.wp P a w next Q) (hn : ∀ a w, next a w → next' a w) : o.wpIn (Fence.wide.inRound l) n P a w next' Q := by
  refine ⟨fun _ _ => trivial, ?_⟩
  rw [Oper.semAt_eq _ _ _ hd]
  unfold Oper.wp at h
  generalize (execOp a.eval o).run P w = r at h ⊢
  unfold Oper.upon at h
  unfold Oper.uponIn
  split at h
  · exact hn _ _ h
  · exact hn _ _ h
  · exact hn _ _ h
  · refine ⟨(by intro hh; cases hh), ?_⟩
    refine CallsIn.inRound l (callsIn_wide.2 ?_)
    refine Calls.mono h ?_
    rintro (v | c | _) w'' hh
    · exact hn _ _ hh
    · exact hh
    · exact absurd hh hQ
  · refine ⟨(by intro hh; cases hh), ?_⟩
    intro c cs _
    obtain ⟨v, w', r, s⟩ := h c cs
    exact ⟨v, w', hn _ _ r, stepsIn_wide.2 s⟩
  · exact h
  · exact h.elim

/-- A region's operations, within a round. -/
theorem opsIn_inRound {l n : Nat} {P : Program} {ops : Array Oper} {Q : Exit → Act → World → Prop} (hd : ∀ (i : Nat) (o : Oper), ops[i]? = some o → ∀ c, o.op ≠ .defer c) (hQ : ¬ LetsOut Q) :
    ∀ (L : List Nat) (a : Act) (w : World), wpOps P ops Q L a w → wpOpsIn (Fence.wide.inRound l) n P ops Q L a w
  | [], _, _, h => h
  | i :: rest, a, w, h => by
    simp only [wpOps] at h
    simp only [wpOpsIn]
    split
    · rename_i ho
      rw [ho] at h
      exact opsIn_inRound hd hQ rest a w h
    · rename_i o ho
      rw [ho] at h
      simp only at h
      split
      · rename_i hw
        rw [if_pos hw] at h
        rcases h with h | h
        · exact oper_inRound (hd i o ho) hQ h (fun a w h => opsIn_inRound hd hQ rest a w h)
        · exact absurd h.2 hQ
      · rename_i hw
        rw [if_neg hw] at h
        exact ⟨fun _ _ => trivial, opsIn_inRound hd hQ rest _ w h⟩

def Oper.noDefer (o : Oper) : Bool := match o.op with
  | .defer _ => false
  | _ => true
theorem noDefer_spec {ops : Array Oper} (h : ops.all Oper.noDefer = true) (i : Nat) (o : Oper) (ho : ops[i]? = some o) (c : Call) : o.op ≠ .defer c := by
  intro e
  obtain ⟨hi, rfl⟩ := Array.getElem?_eq_some_iff.1 ho
  have := (Array.all_eq_true.1 h) i hi
  unfold Oper.noDefer at this
  rw [e] at this
  cases this

/-- A region that draws its order, within a round, where S holds all along. -/
theorem region_inRound {l n : Nat} {P : Program} {id : Nat} {ops : Array Oper} {Q : Exit → Act → World → Prop} {S : World → Prop} {a : Act} {w : World} (hm : P.follows .mixedOrders = true) (hd : ops.all Oper.noDefer = true) (hQ : ¬ LetsOut Q)
    (h : wpAnyH P .any ops Q S ops.size (Array.replicate ops.size false) a w.drew) : (Code.region id ops true).wpIn (Fence.wide.inRound l) n P Q a w :=
  wpIn_region_draw fun t => by
    simp only [Region.schedule, hm, Bool.true_or, if_true]
    exact opsIn_inRound (noDefer_spec hd) hQ _ a _ (wpAny_sound ops.size t _ a _ (wpAny_of_held _ _ _ _ h))
/-- Where nothing goes wrong, what follows then is no matter. -/
theorem wp_calm {P : Program} {c : Code} {K : Act → World → Prop} {Q : Exit → Act → World → Prop} {a : Act} {w : World} (h : c.wp P (Exit.then K (fun _ _ _ => False)) a w) : c.wp P (Exit.then K Q) a w := by
  intro b k cs
  obtain ⟨e, a', w', q, r⟩ := h b k cs
  refine ⟨e, a', w', ?_, r⟩
  cases e <;> first | exact q | exact q.elim
theorem Ext.ofDraw {o o' : Nat → Nat} {ids : List Nat} {w w' : World} (h : Ext o o' ids w.drew w') : Ext o o' ids w w' := ⟨h.os, h.tape, h.output, h.size, h.own, h.block⟩

end Go.Proofs.Ytlmcfclonncgbaa
