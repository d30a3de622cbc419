/- A map block and whose it is: what a store leaves of all else, what look-ups answer, as laws at the operation. -/
import Derived.Test.YtlmcfclonncgbaaMem2
import Derived.Maps.OwnSet
namespace Go.Proofs.Ytlmcfclonncgbaa
open Go.RowKit
open Go.Maps (Keyed)
set_option linter.unusedVariables false

/-- A map's block, whose it is: at most n entries, that read as D. -/
def MapOwn (own : Nat → Nat) (id : Nat) (w : World) (P : Program) (k e : TypeId) (b n : Nat) (D : DataW Unit) : Prop :=
  w.ownsMap P k (plainElem P e) b n D ∧ own b = id

section
variable {own own' : Nat → Nat} {id b n : Nat} {ids : List Nat} {w w' : World} {P : Program} {k e : TypeId} {D : DataW Unit}
theorem MapOwn.lt (h : MapOwn own id w P k e b n D) : b < w.heap.size := h.1.lt
theorem MapOwn.keep (h : MapOwn own id w P k e b n D) (x : Ext own own' ids w w') (hi : id ∉ ids) : MapOwn own' id w' P k e b n D := by
  have hlt := h.1.lt
  obtain ⟨⟨es, clock, hb, r⟩, ho⟩ := h
  exact ⟨⟨es, clock, (x.block b hlt (by rw [ho]; exact hi)).trans hb, r⟩, (x.own b hlt).trans ho⟩
theorem MapOwn.alloc (h : MapOwn own id w P k e b n D) (o : Obj) : MapOwn own id (w.alloc o) P k e b n D := ⟨h.1.alloc o, h.2⟩
theorem MapOwn.dr (h : MapOwn own id w P k e b n D) (m : Nat) : MapOwn own id (w.drewN m) P k e b n D := h
theorem MapOwn.mono (h : MapOwn own id w P k e b n D) {n' : Nat} (hn : n ≤ n') : MapOwn own id w P k e b n' D := ⟨h.1.mono hn, h.2⟩
theorem MapOwn.new (own : Nat → Nat) (id : Nat) (w : World) (P : Program) (k e : TypeId) :
    Ext own (give own w.heap.size id) [] w (w.alloc (.map #[] 0)) ∧ MapOwn (give own w.heap.size id) id (w.alloc (.map #[] 0)) P k e w.heap.size 0 (.map []) :=
  ⟨((Ext.refl own [] w).alloc _).give _ _ (Nat.le_refl _), World.ownsMap_made _ _ _ _, give_same _ _ _⟩
theorem MapOwn.cells_ne (h : MapOwn own id w P k e b n D) {b' : Nat} {cs : Array Value} {t : TypeId} {fr : Nat × Nat} (h' : w.heap[b']? = some (.cells cs t fr)) : b' ≠ b := by
  intro e; subst e
  obtain ⟨⟨es, clock, hb, r⟩, ho⟩ := h
  rw [hb] at h'; cases h'
end

section
variable {P : Program} (w : World) {ops : Array Oper} {rest : List Oper} {o : Oper} {a : Act} {Q : Exit → Act → World → Prop}
/-- 'm[k] = v' at the operation. -/
theorem wpList_map_put (hg : o.guard = none) (m x v : Operand) (t : TypeId) (hop : o.op = Op.mapUpdate t m x v)
    (k e : TypeId) (K : Keyed P k) (ht : P.underlying t = some (.map k e)) {own : Nat → Nat} {id b n : Nat} {D : DataW Unit}
    (hown : MapOwn own id w P k e b n D) (hn : n < maxLen) (hm : a.eval m = .map (some b)) (key val : Value) (kl : Lit) (hx : a.eval x = key) (hv : a.eval v = val) (hkey : keyOf P k key = some kl)
    (d : DataW Unit) (hval : plainElem P e val = some (d, []))
    (hK : ∀ w', MapOwn own id w' P k e b (n + 1) (D.put kl d) → Ext own own [id] w w' → wpList P ops Q rest (a.put o.dst undef) w') :
    wpList P ops Q (o :: rest) a w :=
  wpList_mapUpdate_own w hg m x v t hop k e K ht (plainElem P e) b n D hm hown.1 hn key val kl hx hv hkey d [] hval
    (fun w' h1 h2 => hK w' ⟨h1, hown.2⟩ ((Ext.refl own [id] w).grown h2 (fun j hj hlt => by cases hj; rw [hown.2]; simp)))
/-- An entry of a map's literal, at the operation. -/
theorem wpList_map_insert (hg : o.guard = none) (m x v : Operand) (t : TypeId) (hop : o.op = Op.insert t m x v)
    (k e : TypeId) (K : Keyed P k) (ht : P.underlying t = some (.map k e)) {own : Nat → Nat} {id b n : Nat} {D : DataW Unit}
    (hown : MapOwn own id w P k e b n D) (hn : n < maxLen) (hm : a.eval m = .map (some b)) (key val : Value) (kl : Lit) (hx : a.eval x = key) (hv : a.eval v = val) (hkey : keyOf P k key = some kl)
    (d : DataW Unit) (hval : plainElem P e val = some (d, []))
    (hK : ∀ w', MapOwn own id w' P k e b (n + 1) (D.put kl d) → Ext own own [id] w w' → w.grownBy w' (some b) → wpList P ops Q rest (a.put o.dst undef) w') :
    wpList P ops Q (o :: rest) a w := by
  refine wpList_plain hg fun K' hK' => ?_
  obtain ⟨w', hrun, r1, r2⟩ := hown.1.update K ht hn hkey hval
  unfold Oper.wp
  simp [execOp, hop, hm, hx, hv, hrun, Result.andThen]
  exact hK' _ _ (hK w' ⟨r1, hown.2⟩ ((Ext.refl own [id] w).grown r2 (fun j hj hlt => by cases hj; rw [hown.2]; simp)) r2)
/-- 'v, ok := m[k]' at elements of an integer kind. -/
theorem wpList_map_look_ok (hg : o.guard = none) (m x : Operand) (t : TypeId) (hop : o.op = Op.lookup t m x true)
    (k e : TypeId) (q : IntKind) (K : Keyed P k) (ht : P.underlying t = some (.map k e)) (he : P.underlying e = some (.int q)) (hz : (zeroValue e).run P w = .ok (.int q 0) w)
    {own : Nat → Nat} {id b n : Nat} {D : DataW Unit} (hown : MapOwn own id w P k e b n D)
    (hm : a.eval m = .map (some b)) (key : Value) (kl : Lit) (hx : a.eval x = key) (hkey : keyOf P k key = some kl)
    (c : Int) (hc : D.atKey kl (.lit (.int q 0)) = .lit (.int q c)) (f : Bool) (hf : Maps.has D kl = f)
    (hK : wpList P ops Q rest (a.put o.dst (.tuple #[.int q c, .bool f])) w) :
    wpList P ops Q (o :: rest) a w := by
  refine wpList_lookup_own_ok_int w hg m x t hop k e q K ht he hz b n D hm hown.1 key kl hx hkey (fun c' h1 _ => ?_)
  rw [hc] at h1
  cases h1
  rw [hf]
  exact hK
/-- 'm[k]' at elements of an integer kind. -/
theorem wpList_map_look (hg : o.guard = none) (m x : Operand) (t : TypeId) (hop : o.op = Op.lookup t m x false)
    (k e : TypeId) (q : IntKind) (K : Keyed P k) (ht : P.underlying t = some (.map k e)) (he : P.underlying e = some (.int q)) (hz : (zeroValue e).run P w = .ok (.int q 0) w)
    {own : Nat → Nat} {id b n : Nat} {D : DataW Unit} (hown : MapOwn own id w P k e b n D)
    (hm : a.eval m = .map (some b)) (key : Value) (kl : Lit) (hx : a.eval x = key) (hkey : keyOf P k key = some kl)
    (c : Int) (hc : D.atKey kl (.lit (.int q 0)) = .lit (.int q c))
    (hK : wpList P ops Q rest (a.put o.dst (.int q c)) w) :
    wpList P ops Q (o :: rest) a w := by
  refine wpList_lookup_own_int w hg m x t hop k e q K ht he hz b n D hm hown.1 key kl hx hkey (fun c' h1 _ => ?_)
  rw [hc] at h1
  cases h1
  exact hK
/-- An operation whose guard holds. -/
theorem wpList_wanted (hw : Region.wanted o (yielded ops a.tmps) = true) (h : ∀ K : Act → World → Prop, (∀ a w, wpList P ops Q rest a w → K a w) → o.wp P a w K Q) : wpList P ops Q (o :: rest) a w :=
  wpList_step fun K hK => by rw [if_pos hw]; exact h K hK
/-- 'm[k]' behind a guard that holds. -/
theorem wpList_map_look_g (hw : Region.wanted o (yielded ops a.tmps) = true) (m x : Operand) (t : TypeId) (hop : o.op = Op.lookup t m x false)
    (k e : TypeId) (q : IntKind) (K : Keyed P k) (ht : P.underlying t = some (.map k e)) (he : P.underlying e = some (.int q)) (hz : (zeroValue e).run P w = .ok (.int q 0) w)
    {own : Nat → Nat} {id b n : Nat} {D : DataW Unit} (hown : MapOwn own id w P k e b n D)
    (hm : a.eval m = .map (some b)) (key : Value) (kl : Lit) (hx : a.eval x = key) (hkey : keyOf P k key = some kl)
    (c : Int) (hc : D.atKey kl (.lit (.int q 0)) = .lit (.int q c))
    (hK : wpList P ops Q rest (a.put o.dst (.int q c)) w) :
    wpList P ops Q (o :: rest) a w := by
  refine wpList_wanted w hw fun K' hK' => ?_
  obtain ⟨c', hrun, h1, _⟩ := hown.1.lookup_int K ht he hz hkey
  rw [hc] at h1
  cases h1
  unfold Oper.wp
  simp [execOp, hop, hm, hx, hrun, Result.andThen]
  exact hK' _ _ hK
/-- 'len(m)', behind a guard that holds or none. -/
theorem wpList_map_len_g (hw : Region.wanted o (yielded ops a.tmps) = true) (m : Operand) (t : TypeId) (hop : o.op = Op.call { callee := Callee.builtin Builtin.len, args := #[m], argTypes := #[t] })
    (k e : TypeId) (ht : P.underlying t = some (.map k e)) {own : Nat → Nat} {id b n : Nat} {D : DataW Unit} (hown : MapOwn own id w P k e b n D) (hm : a.eval m = .map (some b)) (z : Nat) (hz : Maps.size D = z)
    (hK : wpList P ops Q rest (a.put o.dst (.int .i64 z)) w) :
    wpList P ops Q (o :: rest) a w := by
  refine wpList_wanted w hw fun K' hK' => ?_
  unfold Oper.wp
  simp [execOp, hop, resolve, invoke, builtin, hm, hown.1.len ht o.type, Result.andThen]
  rw [hz]
  exact hK' _ _ hK
end

end Go.Proofs.Ytlmcfclonncgbaa
