/- A region that draws its order: loads are taken first, where what they read stands till one operation, that waits for them all, comes up. -/
import Derived.Test.YtlmcfclonncgbaaRound
import Derived.Deep.RegionHeldLaw
namespace Go.Proofs.Ytlmcfclonncgbaa
open Go.RowKit
set_option linter.unusedVariables false

section
variable {P : Program} {ops : Array Oper} {Q : Exit → Act → World → Prop} {md : Region.Mode} {S : World → Prop} {p : Nat}
/-- S holds as long as operation p has not come up. -/
def Till (p : Nat) (S : World → Prop) (L : Array Bool) (w : World) : Prop := L.getD p true = false → S w
theorem Till.set {i : Nat} {L : Array Bool} {w : World} (h : i ≠ p) : Till p S (L.setIfInBounds i true) w ↔ Till p S L w := by
  unfold Till; rw [getD_set_ne true h]
theorem Till.gone {L : Array Bool} {w : World} (h : L.getD p true = true) : Till p S L w := fun h' => by rw [h] at h'; cases h'
def wpTill (P : Program) (md : Region.Mode) (ops : Array Oper) (Q : Exit → Act → World → Prop) (p : Nat) (S : World → Prop) : Nat → Array Bool → Act → World → Prop
  | 0, listed, a, w => Region.ready md ops listed = [] ∧ Q .normal a w
  | fuel + 1, listed, a, w => (Region.ready md ops listed = [] → Q .normal a w) ∧
    ∀ i ∈ Region.ready md ops listed, wpOp P ops Q i (fun a' w' => Till p S (listed.setIfInBounds i true) w' ∧ wpTill P md ops Q p S fuel (listed.setIfInBounds i true) a' w') a w
theorem wpTill_any : ∀ (fuel : Nat) (listed : Array Bool) (a : Act) (w : World), wpTill P md ops Q p S fuel listed a w → wpAny P md ops Q fuel listed a w
  | 0, _, _, _, h => h
  | fuel + 1, _, _, _, h => ⟨h.1, fun i hi => wpOp_mono (fun a' w' h' => wpTill_any fuel _ a' w' h'.2) (h.2 i hi)⟩
/-- Operation i, for which p waits, is taken first. -/
theorem wpTill_first {i : Nat} {oi op : Oper} {v : Value} (hi : ops[i]? = some oi) (hsel : ∀ (j : Nat) (o : Oper) cs b, ops[j]? = some o → o.op ≠ .select cs b)
    (hQ : ∀ c a w, Q (.panic c) (a.put oi.dst v) w → Q (.panic c) a w) (hip : i ≠ p) (hp : ops[p]? = some op) (hwait : ∃ e ∈ op.after, Region.binds md e = true ∧ e.on = i) :
    ∀ (fuel : Nat) (listed : Array Bool) (a : Act) (w : World),
      (∀ j oj, ops[j]? = some oj → j ≠ i → listed.getD j true = false → (∀ e ∈ oj.after, Region.binds md e = true → e.on ≠ i) → oi.apart ops oj = true) →
      i ∈ Region.ready md ops listed → YieldsIf P ops S oi v a → listed.getD p true = false → Till p S listed w →
      wpTill P md ops Q p S fuel (listed.setIfInBounds i true) (a.put oi.dst v) w → wpTill P md ops Q p S (fuel + 1) listed a w := by
  intro fuel
  induction fuel with
  | zero =>
    intro listed a w _ hr hy hp0 hS H
    refine ⟨fun h => (by rw [h] at hr; cases hr), fun j hj => ?_⟩
    by_cases hji : j = i
    · subst hji; exact hy.wpOp hi (hS hp0) ⟨(Till.set hip).2 hS, H⟩
    · have := ready_mono hj hji
      rw [H.1] at this
      cases this
  | succ fuel ih =>
    intro listed a w hfree hr hy hp0 hS H
    refine ⟨fun h => (by rw [h] at hr; cases hr), fun j hj => ?_⟩
    by_cases hji : j = i
    · subst hji; exact hy.wpOp hi (hS hp0) ⟨(Till.set hip).2 hS, H⟩
    · have h1 := H.2 j (ready_mono hj hji)
      obtain ⟨hjun, oj, hoj, hall⟩ := mem_ready.1 hj
      have hnot : ∀ e ∈ oj.after, Region.binds md e = true → e.on ≠ i := fun e he hb heq => by
        have h1 := hall e he hb
        have h0 := (mem_ready.1 hr).1
        rw [heq] at h1
        rcases Nat.lt_or_ge i listed.size with h' | h'
        · simp [h'] at h0 h1; rw [h0] at h1; cases h1
        · simp [Array.getElem?_eq_none h'] at h1
      have hjp : j ≠ p := by
        rintro rfl
        obtain ⟨e, he, hb, heq⟩ := hwait
        rw [hp] at hoj
        cases hoj
        exact hnot e he hb heq
      have h2 := wpOp_putIf hoj (hfree j oj hoj hji hjun hnot) (fun cs b => hsel i oi cs b hi) (fun cs b => hsel j oj cs b hoj) hQ hy h1
      have hfree' : ∀ k ok, ops[k]? = some ok → k ≠ i → (listed.setIfInBounds j true).getD k true = false →
          (∀ e ∈ ok.after, Region.binds md e = true → e.on ≠ i) → oi.apart ops ok = true := fun k ok hk hki hun hno => by
        refine hfree k ok hk hki ?_ hno
        by_cases hjk : j = k
        · subst hjk; exact hjun
        · rw [getD_set_ne true hjk] at hun; exact hun
      refine wpOp_mono (fun a' w' h3 => ?_) h2
      have hT : Till p S (listed.setIfInBounds j true) w' := (Till.set hjp).2 ((Till.set hip).1 ((Till.set hjp).1 h3.2.1))
      refine ⟨hT, ih (listed.setIfInBounds j true) a' w' hfree' (ready_mono hr (Ne.symm hji)) h3.1 (by rw [getD_set_ne true hjp]; exact hp0) hT ?_⟩
      rw [Array.setIfInBounds_comm _ _ hji]
      exact h3.2.2
def waits (md : Region.Mode) (ops : Array Oper) (p i : Nat) : Bool := match ops[p]? with
  | some o => i != p && o.after.any fun e => Region.binds md e && e.on == i
  | none => false
theorem wpTill_take {oi : Oper} (i : Nat) {v : Value} {fuel : Nat} {listed : Array Bool} {a : Act} {w : World} (hi : ops[i]? = some oi)
    (hs : Region.noSelect ops = true) (hf : Region.free md ops listed i = true) (hr : (Region.ready md ops listed).contains i = true) (hwt : waits md ops p i = true) (hp0 : listed.getD p true = false)
    (hQ : ∀ c a w, Q (.panic c) (a.put oi.dst v) w → Q (.panic c) a w) (hw : Region.wanted oi (yielded ops a.tmps) = true) (hS : S w) (hy : ∀ w, S w → (execOp a.eval oi).run P w = .ok (.value v) w)
    (h : wpTill P md ops Q p S fuel (listed.setIfInBounds i true) (a.put oi.dst v) w) : wpTill P md ops Q p S (fuel + 1) listed a w := by
  unfold waits at hwt
  split at hwt
  · rename_i op hop
    simp only [Bool.and_eq_true, bne_iff_ne, ne_eq, Array.any_eq_true', beq_iff_eq] at hwt
    obtain ⟨h1, e, h2, h3, h4⟩ := hwt
    exact wpTill_first hi (Region.noSelect_spec hs) hQ h1 hop ⟨e, h2, h3, h4⟩ fuel listed a w (Region.free_spec hi hf) (by simpa using hr) (Or.inl ⟨hw, hy⟩) hp0 (fun _ => hS) h
  · cases hwt
/-- What yields in whatever world is taken first, p or no p. -/
theorem wpTill_pure {oi : Oper} (i : Nat) {v : Value} {fuel : Nat} {listed : Array Bool} {a : Act} {w : World} (hi : ops[i]? = some oi) (hr : Region.ready md ops listed = [i]) (hpl : (listed.setIfInBounds i true).getD p true = true)
    (hw : Region.wanted oi (yielded ops a.tmps) = true) (hy : (execOp a.eval oi).run P w = .ok (.value v) w)
    (h : wpTill P md ops Q p S fuel (listed.setIfInBounds i true) (a.put oi.dst v) w) : wpTill P md ops Q p S (fuel + 1) listed a w := by
  refine ⟨fun h0 => (by rw [hr] at h0; cases h0), fun j hj => ?_⟩
  rw [hr] at hj
  obtain rfl := List.mem_singleton.1 hj
  exact YieldsIf.wpOp (S := fun w' => w' = w) hi (Or.inl ⟨hw, fun w' e => by rw [e]; exact hy⟩) rfl ⟨Till.gone hpl, h⟩
/-- The one operation that may come up now. -/
theorem wpTill_one {o : Oper} (i : Nat) {fuel : Nat} {listed : Array Bool} {a : Act} {w : World} (ho : ops[i]? = some o) (hr : Region.ready md ops listed = [i]) (hw : Region.wanted o (yielded ops a.tmps) = true)
    (h : ∀ K : Act → World → Prop, RowKit.Hid (∀ a w, (Till p S (listed.setIfInBounds i true) w) → wpTill P md ops Q p S fuel (listed.setIfInBounds i true) a w → K a w) → o.wp P a w K Q) : wpTill P md ops Q p S (fuel + 1) listed a w := by
  refine ⟨fun h0 => (by rw [hr] at h0; cases h0), fun j hj => ?_⟩
  rw [hr] at hj
  obtain rfl := List.mem_singleton.1 hj
  refine wpOp_step ho (fun K hK => ?_)
  rw [if_pos hw]
  exact h K (fun a w h1 h2 => hK a w ⟨h1, h2⟩)
theorem wpTill_done {listed : Array Bool} {a : Act} {w : World} (hr : Region.ready md ops listed = []) (h : Q .normal a w) : ∀ fuel, wpTill P md ops Q p S fuel listed a w
  | 0 => ⟨hr, h⟩
  | _ + 1 => ⟨fun _ => h, by rw [hr]; simp⟩
/-- The beginning. -/
theorem wp_region_till (p : Nat) (S : World → Prop) {id : Nat} {a : Act} {w : World} (hm : P.follows .mixedOrders = true)
    (h : wpTill P .any ops Q p S ops.size (Array.replicate ops.size false) a w.drew) : (Code.region id ops true).wp P Q a w :=
  wp_region_draw fun t => by
    simp only [Region.schedule, hm, Bool.true_or, if_true]
    exact wpAny_sound ops.size t _ a _ (wpTill_any _ _ _ _ h)
theorem wpIn_region_till (p : Nat) (S : World → Prop) {l n : Nat} {id : Nat} {a : Act} {w : World} (hm : P.follows .mixedOrders = true) (hd : ops.all Oper.noDefer = true) (hQ : ¬ LetsOut Q)
    (h : wpTill P .any ops Q p S ops.size (Array.replicate ops.size false) a w.drew) : (Code.region id ops true).wpIn (Fence.wide.inRound l) n P Q a w :=
  wpIn_region_draw fun t => by
    simp only [Region.schedule, hm, Bool.true_or, if_true]
    exact opsIn_inRound (noDefer_spec hd) hQ _ a _ (wpAny_sound ops.size t _ a _ (wpTill_any _ _ _ _ h))
end

end Go.Proofs.Ytlmcfclonncgbaa
