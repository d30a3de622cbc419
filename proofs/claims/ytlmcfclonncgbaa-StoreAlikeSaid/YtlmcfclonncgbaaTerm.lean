/- Terms in memory: what a term's cells say, all the way down; blocks of terms are nobody's to write (owner 0). -/
import Derived.Test.YtlmcfclonncgbaaCame
import Derived.Test.YtlmcfclonncgbaaTree
import Derived.OwnWalk
namespace Go.Proofs.Ytlmcfclonncgbaa
open Go.RowKit
set_option linter.unusedVariables false

/-- The numbers of a node are of their kinds. -/
def Rng (k n re im : Int) (s : ByteArray) : Prop :=
  (-9223372036854775808 ≤ k ∧ k ≤ 9223372036854775807) ∧ (-9223372036854775808 ≤ n ∧ n ≤ 9223372036854775807) ∧ (0 ≤ re ∧ re < 18446744073709551616) ∧ (0 ≤ im ∧ im < 18446744073709551616) ∧ s.size ≤ maxLen
/-- A node's cells. -/
def cellsT (t : Tm) (sl : Value) : List Value := [.int .i64 t.kind, .string t.name, .int .i64 t.int, .int .u64 t.re, .int .u64 t.im, sl]
def valT (t : Tm) (sl : Value) : Value := .agg #[.int .i64 t.kind, .string t.name, .int .i64 t.int, .int .u64 t.re, .int .u64 t.im, sl]
mutual
/-- A term's arguments lie where its slice says. -/
def TmS (own : Nat → Nat) (w : World) : Tm → Value → Prop
  | .mk k s n re im args, sl => Rng k n re im s ∧ ∃ A len cap, sl = .slice A len cap ∧ args.length = len ∧ len ≤ cap ∧ cap ≤ maxLen ∧ TmE own w A 0 args
def TmE (own : Nat → Nat) (w : World) (A : Option Addr) : Nat → List Tm → Prop
  | _, [] => True
  | i, t :: ts => (∃ b o sl, A = some ⟨b, o, none⟩ ∧ b < w.heap.size ∧ own b = 0 ∧ TmS own w t sl ∧ ∀ j u, (cellsT t sl)[j]? = some u → w.cell? ⟨b, o + (i * 6 + j), none⟩ = some u) ∧ TmE own w A (i + 1) ts
end
/-- A slice of terms. -/
def TmL (own : Nat → Nat) (w : World) (l : List Tm) (A : Option Addr) (len cap : Nat) : Prop := l.length = len ∧ len ≤ cap ∧ cap ≤ maxLen ∧ TmE own w A 0 l

theorem Ext.cell {own own' : Nat → Nat} {ids : List Nat} {w w' : World} (x : Ext own own' ids w w') {p : Addr} (hp : p.block < w.heap.size) (ho : own p.block ∉ ids) : w'.cell? p = w.cell? p := by
  unfold World.cell?
  rw [x.block _ hp ho]
section
variable {own own' : Nat → Nat} {ids : List Nat} {w w' : World}
mutual
theorem TmS.keep (x : Ext own own' ids w w') (hi : 0 ∉ ids) : ∀ (t : Tm) (sl : Value), TmS own w t sl → TmS own' w' t sl
  | .mk k s n re im args, sl, h => by
    obtain ⟨h0, A, len, cap, h1, h2, h3, h4, h5⟩ := h
    exact ⟨h0, A, len, cap, h1, h2, h3, h4, TmE.keep x hi A 0 args h5⟩
theorem TmE.keep (x : Ext own own' ids w w') (hi : 0 ∉ ids) (A : Option Addr) : ∀ (i : Nat) (l : List Tm), TmE own w A i l → TmE own' w' A i l
  | _, [], _ => trivial
  | i, t :: ts, ⟨⟨b, o, sl, h1, h2, h3, h4, h5⟩, h6⟩ =>
    ⟨⟨b, o, sl, h1, Nat.lt_of_lt_of_le h2 x.size, (x.own b h2).trans h3, TmS.keep x hi t sl h4, fun j u hu => (x.cell (p := ⟨b, _, none⟩) h2 (by show own b ∉ ids; rw [h3]; exact hi)).trans (h5 j u hu)⟩, TmE.keep x hi A (i + 1) ts h6⟩
end
theorem TmL.keep {l : List Tm} {A : Option Addr} {len cap : Nat} (h : TmL own w l A len cap) (x : Ext own own' ids w w') (hi : 0 ∉ ids) : TmL own' w' l A len cap := ⟨h.1, h.2.1, h.2.2.1, TmE.keep x hi A 0 l h.2.2.2⟩
theorem TmS.dr {t : Tm} {sl : Value} (h : TmS own w t sl) (n : Nat) : TmS own (w.drewN n) t sl := TmS.keep ((Ext.refl own [] w).drewN n) (by simp) t sl h
theorem TmE.get {A : Option Addr} : ∀ (l : List Tm) (i : Nat), TmE own w A i l → ∀ (j : Nat) (t : Tm), l[j]? = some t → ∃ b o sl, A = some ⟨b, o, none⟩ ∧ b < w.heap.size ∧ own b = 0 ∧ TmS own w t sl ∧ ∀ q u, (cellsT t sl)[q]? = some u → w.cell? ⟨b, o + ((i + j) * 6 + q), none⟩ = some u
  | [], _, _, j, t, h => by simp at h
  | a :: r, i, ⟨h0, h1⟩, 0, t, h => by
    simp at h
    subst h
    simpa using h0
  | a :: r, i, ⟨h0, h1⟩, j + 1, t, h => by
    have := TmE.get r (i + 1) h1 j t (by simpa using h)
    rwa [show i + 1 + j = i + (j + 1) by omega] at this
theorem TmE.of {A : Option Addr} : ∀ (l : List Tm) (i : Nat), (∀ (j : Nat) (t : Tm), l[j]? = some t → ∃ b o sl, A = some ⟨b, o, none⟩ ∧ b < w.heap.size ∧ own b = 0 ∧ TmS own w t sl ∧ ∀ q u, (cellsT t sl)[q]? = some u → w.cell? ⟨b, o + ((i + j) * 6 + q), none⟩ = some u) → TmE own w A i l
  | [], _, _ => trivial
  | a :: r, i, h => ⟨by simpa using h 0 a rfl, TmE.of r (i + 1) (fun j t ht => by
      have := h (j + 1) t (by simpa using ht)
      rwa [show i + (j + 1) = i + 1 + j by omega] at this)⟩
theorem TmS.rng {t : Tm} {sl : Value} (h : TmS own w t sl) : Rng t.kind t.int t.re t.im t.name := by
  cases t; exact h.1
/-- A term's slice, as it is met on a walk. -/
theorem TmS.args {t : Tm} {sl : Value} (h : TmS own w t sl) : ∃ A len cap, sl = .slice A len cap ∧ TmL own w t.args A len cap := by
  cases t
  obtain ⟨_, A, len, cap, h1, h2, h3, h4, h5⟩ := h
  exact ⟨A, len, cap, h1, h2, h3, h4, h5⟩
/-- One term of a slice of terms. -/
theorem TmL.get {l : List Tm} {A : Option Addr} {len cap : Nat} (h : TmL own w l A len cap) (j : Nat) (hj : j < len) : ∃ t b o sl, l[j]? = some t ∧ A = some ⟨b, o, none⟩ ∧ TmS own w t sl ∧ b < w.heap.size ∧ own b = 0 ∧ ∀ q u, (cellsT t sl)[q]? = some u → w.cell? ⟨b, o + j * 6 + q, none⟩ = some u := by
  have hj' : j < l.length := by rw [h.1]; exact hj
  obtain ⟨b, o, sl, h1, h2, h3, h4, h5⟩ := h.2.2.2.get l 0 j _ (List.getElem?_eq_getElem hj')
  refine ⟨l[j], b, o, sl, List.getElem?_eq_getElem hj', h1, h4, h2, h3, fun q u hu => ?_⟩
  have := h5 q u hu
  rwa [Nat.zero_add, ← Nat.add_assoc] at this
theorem TmL.nil : TmL own w [] none 0 0 := ⟨rfl, Nat.le_refl _, Nat.zero_le _, trivial⟩
end

/-! What came in -/
theorem okWide_struct {P : Program} {w : World} {r : Reach} {base : Nat} {t : TypeId} {v : Value} {fs : Array Field} (ht : P.underlying t = some (.struct fs)) (h : Value.okWide P w r base t v) : ∃ cs, v = .agg cs := by
  unfold Value.okWide at h
  rw [ht] at h
  obtain ⟨cs, rfl, _, _⟩ := h
  exact ⟨cs, rfl⟩
theorem six_of {cs : List Value} (hl : cs.length = 6) : ∃ u0 u1 u2 u3 u4 u5, cs = [u0, u1, u2, u3, u4, u5] := by
  match cs, hl with
  | [u0, u1, u2, u3, u4, u5], _ => exact ⟨u0, u1, u2, u3, u4, u5, rfl⟩
theorem struct6 {H : Type} {enc : TypeId × Value → H} {P : Program} {w : World} {base : Nat} {spare : Nat → Bool} {held : Bool} {t : TypeId} {f0 f1 f2 f3 f4 f5 : Field} {fuel : Nat} {cs : List Value} {x : DataW H × List MemPlace} (ht : P.underlying t = some (.struct #[f0, f1, f2, f3, f4, f5])) (h : DataW.trod enc P w base spare held fuel t cs = some x) :
    ∃ y0 y1 y2 y3 y4 y5 n, fuel = n + 1 ∧ cs.length = P.cellsOf t ∧ DataW.trod enc P w base spare held n f0.type ((cs.drop f0.offset).take (P.cellsOf f0.type)) = some y0 ∧
      DataW.trod enc P w base spare held n f1.type ((cs.drop f1.offset).take (P.cellsOf f1.type)) = some y1 ∧ DataW.trod enc P w base spare held n f2.type ((cs.drop f2.offset).take (P.cellsOf f2.type)) = some y2 ∧
      DataW.trod enc P w base spare held n f3.type ((cs.drop f3.offset).take (P.cellsOf f3.type)) = some y3 ∧ DataW.trod enc P w base spare held n f4.type ((cs.drop f4.offset).take (P.cellsOf f4.type)) = some y4 ∧
      DataW.trod enc P w base spare held n f5.type ((cs.drop f5.offset).take (P.cellsOf f5.type)) = some y5 := by
  obtain ⟨xs, n, hn, rfl, hl, hlen, hf⟩ := DataW.trod_struct ht h
  match xs, hlen with
  | [y0, y1, y2, y3, y4, y5], _ => exact ⟨y0, y1, y2, y3, y4, y5, n, hn, hl, by simpa using hf 0 f0 rfl, by simpa using hf 1 f1 rfl, by simpa using hf 2 f2 rfl, by simpa using hf 3 f3 rfl, by simpa using hf 4 f4 rfl, by simpa using hf 5 f5 rfl⟩
theorem size_term : Try.prog.cellsOf 25 = 6 := by kernel_rfl
theorem size_1a : Try.prog.cellsOf 3 = 1 := by kernel_rfl
theorem size_1b : Try.prog.cellsOf 9 = 1 := by kernel_rfl
theorem size_1c : Try.prog.cellsOf 2 = 1 := by kernel_rfl
theorem size_1d : Try.prog.cellsOf 22 = 1 := by kernel_rfl
theorem size_1e : Try.prog.cellsOf 23 = 1 := by kernel_rfl
section
variable {H : Type} {enc : TypeId × Value → H} {w : World}
set_option maxRecDepth 20000 in
theorem came_terms : ∀ fuel : Nat, (∀ cs y, DataW.trod enc Try.prog w 0 (fun _ => true) true fuel 25 cs = some y → ∃ t sl, cs = cellsT t sl ∧ TmS own0 w t sl) ∧
    (∀ cs y, DataW.trod enc Try.prog w 0 (fun _ => true) true fuel 23 cs = some y → ∃ l A len cap, cs = [.slice A len cap] ∧ TmL own0 w l A len cap)
  | 0 => ⟨fun cs y h => by simp [DataW.trod] at h, fun cs y h => by simp [DataW.trod] at h⟩
  | n + 1 => by
    obtain ⟨ih1, ih2⟩ := came_terms n
    refine ⟨fun cs y h => ?_, fun cs y h => ?_⟩
    · obtain ⟨y0, y1, y2, y3, y4, y5, n', hn, hl, h0, h1, h2, h3, h4, h5⟩ := struct6 Try.underlying25 h
      obtain rfl : n = n' := by omega
      rw [size_term] at hl
      simp only [size_1a, size_1b, size_1c, size_1d, size_1e] at h0 h1 h2 h3 h4 h5
      obtain ⟨u0, u1, u2, u3, u4, u5, rfl⟩ := six_of hl
      obtain ⟨a0, e0, _, w0⟩ := DataW.trod_int Try.underlying3 h0
      obtain ⟨a1, e1, _, w1⟩ := DataW.trod_string Try.underlying9 h1
      obtain ⟨a2, e2, _, w2⟩ := DataW.trod_int Try.underlying2 h2
      obtain ⟨a3, e3, _, w3⟩ := DataW.trod_int Try.underlying22 h3
      obtain ⟨a4, e4, _, w4⟩ := DataW.trod_int Try.underlying22 h4
      obtain ⟨l, A, len, cap, e5, hL⟩ := ih2 _ _ h5
      simp at e0 e1 e2 e3 e4 e5
      subst e0 e1 e2 e3 e4 e5
      have := wf_i64 w0
      have := wf_i64 w2
      have := wf_u64 w3
      have := wf_u64 w4
      exact ⟨.mk a0 a1 a2 a3 a4 l, _, rfl, ⟨by omega, by omega, by omega, by omega, w1⟩, A, len, cap, rfl, hL.1, hL.2.1, hL.2.2.1, hL.2.2.2⟩
    · rcases DataW.trod_slice Try.underlying23 h with ⟨rfl, _⟩ | ⟨a, len, cap, elems, rest, n', hn, rfl, _, _, hlc, hcm, hel, hx, _⟩
      · exact ⟨[], none, 0, 0, rfl, TmL.nil⟩
      · obtain rfl : n = n' := by omega
        rw [size_term] at hx
        obtain ⟨xs, hxl, hq⟩ := list_of (Q := fun i t => ∃ b o sl, (some a : Option Addr) = some ⟨b, o, none⟩ ∧ b < w.heap.size ∧ TmS own0 w t sl ∧ ∀ j u, (cellsT t sl)[j]? = some u → w.cell? ⟨b, o + (i * 6 + j), none⟩ = some u) len (fun i hi => by
          obtain ⟨y, hy⟩ : ∃ y, elems[i]? = some y := ⟨_, List.getElem?_eq_getElem (by omega)⟩
          have hb := hx i hi
          rw [hy] at hb
          obtain ⟨cs', h1, h2⟩ := Option.bind_eq_some_iff.1 hb
          obtain ⟨t, sl, rfl, hT⟩ := ih1 _ _ h2
          have hsp := spot_of h1 (by omega)
          obtain ⟨hblt, _, hc⟩ := cells_at h1 (by omega) hsp
          obtain ⟨y0, hy0⟩ : ∃ y, elems[0]? = some y := ⟨_, List.getElem?_eq_getElem (by omega)⟩
          have hb0 := hx 0 (by omega)
          rw [hy0] at hb0
          obtain ⟨cs0, h3, _⟩ := Option.bind_eq_some_iff.1 hb0
          have hsp0 := spot_of h3 (by omega)
          have e0 : a.spot = none := by simpa [Addr.add] using hsp0
          refine ⟨t, a.block, a.off, sl, ?_, ?_, hT, ?_⟩
          · cases a; simp_all
          · unfold Addr.add at hblt; split at hblt <;> exact hblt
          · intro j u hu
            have := hc j u hu
            unfold Addr.add at this
            split at this
            · rename_i hz; rw [hz, Nat.zero_add]; exact this
            · rw [← Nat.add_assoc]; exact this)
        refine ⟨xs, some a, len, cap, rfl, hxl, hlc, hcm, TmE.of xs 0 fun j t ht => ?_⟩
        obtain ⟨b, o, sl, h1, h2, h3, h4⟩ := hq j t ht
        exact ⟨b, o, sl, h1, h2, rfl, h3, by simpa using h4⟩
set_option maxRecDepth 100000 in
theorem open_term {v : Value} {d : DataW H} {p : List MemPlace} {base : Nat} (hv : Value.okWide Try.prog w .any base 25 v) (h : DataW.Trod enc Try.prog w 0 (fun _ => true) true 25 v d p) : ∃ t sl, v = valT t sl ∧ TmS own0 w t sl := by
  obtain ⟨fuel, hf⟩ := h
  obtain ⟨cs, rfl⟩ := okWide_struct Try.underlying25 hv
  obtain ⟨t, sl, he, hT⟩ := (came_terms fuel).1 _ _ hf
  refine ⟨t, sl, ?_, hT⟩
  have : cs.toList = cellsT t sl := he
  have : cs = (cellsT t sl).toArray := by rw [← this]
  rw [this]; rfl
set_option maxRecDepth 100000 in
theorem open_terms {a : Option Addr} {len cap : Nat} {d : DataW H} {p : List MemPlace} (h : DataW.Trod enc Try.prog w 0 (fun _ => true) true 23 (.slice a len cap) d p) : ∃ l : List Tm, TmL own0 w l a len cap := by
  obtain ⟨fuel, hf⟩ := h
  obtain ⟨l, A, len', cap', he, hL⟩ := (came_terms fuel).2 _ _ hf
  simp [Value.cells] at he
  obtain ⟨rfl, rfl, rfl⟩ := he
  exact ⟨l, hL⟩
end

end Go.Proofs.Ytlmcfclonncgbaa
