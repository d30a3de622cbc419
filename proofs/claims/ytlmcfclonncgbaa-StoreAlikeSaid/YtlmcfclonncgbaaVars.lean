/- Maps from numbers to numbers: what they tell; their laws as equations of runs. -/
import Derived.Test.YtlmcfclonncgbaaMaps
import Derived.Test.YtlmcfclonncgbaaPut
import Derived.Maps.OwnSet
namespace Go.Proofs.Ytlmcfclonncgbaa
open Go.RowKit
set_option linter.unusedVariables false

open Go.Maps (Keyed int_keyed keyOf_int_mk)
/-- What a map tells: the pairs that were put, each key once. -/
structure VM (q1 q2 : IntKind) (V : List (Int × Int)) (D : DataW Unit) : Prop where
  tidy : Maps.Tidy D
  has : ∀ n, Maps.has D (.int q1 n) = (look V n).isSome
  val : ∀ n, D.atKey (.int q1 n) (.lit (.int q2 0)) = .lit (.int q2 ((look V n).getD 0))
  size : Maps.size D = V.length
theorem VM.nil (q1 q2 : IntKind) : VM q1 q2 [] (.map []) := ⟨Maps.tidy_empty, fun n => rfl, fun n => rfl, rfl⟩
theorem intQ_key (q : IntKind) (n : Int) : WideAt.IsKeyLit (.int q n) := trivial
theorem VM.put {q1 q2 : IntKind} {V : List (Int × Int)} {D : DataW Unit} (h : VM q1 q2 V D) (n x : Int) (hn : look V n = none) : VM q1 q2 (V ++ [(n, x)]) (D.put (.int q1 n) (.lit (.int q2 x))) := by
  have hD := h.tidy.isMap
  refine ⟨h.tidy.put (intQ_key _ _) _, fun m => ?_, fun m => ?_, ?_⟩
  · by_cases e : m = n
    · subst e
      rw [Maps.has_put_same hD (intQ_key _ _), look_new hn]; rfl
    · rw [Maps.has_put_other (fun h => e (by cases h; rfl)), look_old e]
      exact h.has m
  · by_cases e : m = n
    · subst e
      rw [Maps.atKey_put_same hD (intQ_key _ _), look_new hn]; rfl
    · rw [Maps.atKey_put_other (fun h => e (by cases h; rfl)), look_old e]
      exact h.val m
  · rw [Maps.size_put h.tidy, h.has n, hn]
    simp [h.size]
/-- A map at block p. -/
def MV (own : Nat → Nat) (id : Nat) (w : World) (P : Program) (q1 q2 : IntKind) (kt et : TypeId) (p : Nat) (V : List (Int × Int)) : Prop := ∃ D, MapOwn own id w P kt et p V.length D ∧ VM q1 q2 V D
section
variable {own own' : Nat → Nat} {id p : Nat} {ids : List Nat} {w w' : World} {P : Program} {q1 q2 : IntKind} {kt et : TypeId} {V : List (Int × Int)}
theorem MV.keep (h : MV own id w P q1 q2 kt et p V) (x : Ext own own' ids w w') (hi : id ∉ ids) : MV own' id w' P q1 q2 kt et p V := by
  obtain ⟨D, h1, h2⟩ := h
  exact ⟨D, h1.keep x hi, h2⟩
theorem MV.dr (h : MV own id w P q1 q2 kt et p V) (n : Nat) : MV own id (w.drewN n) P q1 q2 kt et p V := h
theorem MV.lt (h : MV own id w P q1 q2 kt et p V) : p < w.heap.size := by
  obtain ⟨D, h1, _⟩ := h; exact h1.lt
theorem MV.new (own : Nat → Nat) (id : Nat) (w : World) (P : Program) (q1 q2 : IntKind) (kt et : TypeId) :
    Ext own (give own w.heap.size id) [] w (w.alloc (.map #[] 0)) ∧ MV (give own w.heap.size id) id (w.alloc (.map #[] 0)) P q1 q2 kt et w.heap.size [] := by
  obtain ⟨h1, h2⟩ := MapOwn.new own id w P kt et
  exact ⟨h1, _, h2, VM.nil _ _⟩
/-- 'v, ok := m[k]', as an equation of its run. -/
theorem MV.look_ok (h : MV own id w P q1 q2 kt et p V) {t : TypeId} (ht : P.underlying t = some (.map kt et)) (hk : P.underlying kt = some (.int q1)) (he : P.underlying et = some (.int q2)) (hz : (zeroValue et).run P w = .ok (.int q2 0) w) (n : Int) (hw : (Lit.int q1 n).wf = true) :
    (Instr.lookup t (.map (some p)) (.int q1 n) true).run P w = .ok (.tuple #[.int q2 ((look V n).getD 0), .bool (look V n).isSome]) w := by
  obtain ⟨D, h1, h2⟩ := h
  have hw0 : (Lit.int q2 0).wf = true := by cases q2 <;> decide
  obtain ⟨v, ps, hrun, hv⟩ := h1.1.look_ok (int_keyed hk) ht hz (plainElem_int he hw0) (keyOf_int_mk hk hw)
  obtain ⟨c, rfl, hc, hwc⟩ := plainElem_int_inv he hv
  rw [h2.val] at hc
  simp only [Prod.mk.injEq, DataW.lit.injEq, Lit.int.injEq, true_and] at hc
  rw [hrun, h2.has, ← hc.1]
/-- 'm[k]'. -/
theorem MV.at_ (h : MV own id w P q1 q2 kt et p V) {t : TypeId} (ht : P.underlying t = some (.map kt et)) (hk : P.underlying kt = some (.int q1)) (he : P.underlying et = some (.int q2)) (hz : (zeroValue et).run P w = .ok (.int q2 0) w) (n : Int) (hw : (Lit.int q1 n).wf = true) :
    (Instr.lookup t (.map (some p)) (.int q1 n) false).run P w = .ok (.int q2 ((look V n).getD 0)) w := by
  obtain ⟨D, h1, h2⟩ := h
  obtain ⟨c, hrun, hat, _⟩ := h1.1.lookup_int (int_keyed hk) ht he hz (keyOf_int_mk hk hw)
  rw [h2.val] at hat
  simp only [DataW.lit.injEq, Lit.int.injEq, true_and] at hat
  rw [hrun, hat]
/-- 'm[k] = v' of a new key. -/
theorem MV.put (h : MV own id w P q1 q2 kt et p V) {t : TypeId} (ht : P.underlying t = some (.map kt et)) (hk : P.underlying kt = some (.int q1)) (he : P.underlying et = some (.int q2)) (n x : Int) (hw : (Lit.int q1 n).wf = true) (hx : (Lit.int q2 x).wf = true) (hn : look V n = none) (hV : V.length < 1000000000) :
    ∃ w', (Instr.mapUpdate t (.map (some p)) (.int q1 n) (.int q2 x)).run P w = .ok () w' ∧ MV own id w' P q1 q2 kt et p (V ++ [(n, x)]) ∧ Ext own own [id] w w' ∧ w.grownBy w' (some p) := by
  obtain ⟨D, h1, h2⟩ := h
  obtain ⟨w', hrun, r1, r2⟩ := h1.1.update (int_keyed hk) ht (by unfold maxLen; omega) (keyOf_int_mk hk hw) (plainElem_int he hx)
  refine ⟨w', hrun, ⟨_, ⟨?_, h1.2⟩, h2.put n x hn⟩, (Ext.refl own [id] w).grown r2 (fun j hj hlt => by cases hj; rw [h1.2]; simp), r2⟩
  rw [List.length_append]
  exact r1
theorem MV.len (h : MV own id w P q1 q2 kt et p V) {t : TypeId} (ht : P.underlying t = some (.map kt et)) (ty : TypeId) : (Builtin.len_ #[t] ty #[.map (some p)]).run P w = .ok (.int .i64 (V.length : Nat)) w := by
  obtain ⟨D, h1, h2⟩ := h
  rw [h1.1.len ht ty, h2.size]
end

end Go.Proofs.Ytlmcfclonncgbaa
