/- Terms made (package elenchusref1: Atom, Int, Var, Comp). -/
import Derived.Test.YtlmcfclonncgbaaTerm
import Derived.Test.YtlmcfclonncgbaaBox
namespace Go.Proofs.Ytlmcfclonncgbaa
open Go.RowKit
set_option linter.unusedVariables false
set_option linter.unusedSimpArgs false

theorem results_cell1 {fn : Func} {p : Tmp} {ty : TypeId} (h : fn.results = #[.cell p ty]) (tmps : Array Value) (P : Program) (w : World) :
    (results fn tmps).run P w = ((asAddr (tmps.getD p undef)).run P w).andThen fun a w₁ => (loadVar ty a).run P w₁ := by
  simp only [results, h]
  simp [Sem.run_bind, Result.andThen]
theorem r1atom_any (own : Nat → Nat) (s : ByteArray) (w : World) : Calls Try.prog 76 #[.string s] w (Does own [] w fun own' e w' => e = .returned (valT (.mk 2 s 0 0 0 []) (.slice none 0 0))) := by
  go_enter Try.func76, Try.ntmps76
  go_wp2_with fail
  (try simp only [Exit.inBlock, Exit.then])
  refine bodyPost_ret (v := .agg #[.int .i64 2, .string s, .int .i64 0, .int .u64 0, .int .u64 0, .slice none 0 0]) ?_ rfl ?_
  · rw [results_cell1 rfl]
    go_simp
    try rfl
  · exact ⟨own, (Ext.refl own [] w).alloc _, rfl⟩
theorem r1var_any (own : Nat → Nat) (n : Int) (w : World) : Calls Try.prog 35 #[.int .i64 n] w (Does own [] w fun own' e w' => e = .returned (valT (.mk 1 ByteArray.empty n 0 0 []) (.slice none 0 0))) := by
  go_enter Try.func35, Try.ntmps35
  go_wp2_with fail
  (try simp only [Exit.inBlock, Exit.then])
  refine bodyPost_ret (v := .agg #[.int .i64 1, .string ByteArray.empty, .int .i64 n, .int .u64 0, .int .u64 0, .slice none 0 0]) ?_ rfl ?_
  · rw [results_cell1 rfl]
    go_simp
    try rfl
  · exact ⟨own, (Ext.refl own [] w).alloc _, rfl⟩
theorem r1int_any (own : Nat → Nat) (n : Int) (w : World) : Calls Try.prog 136 #[.int .i64 n] w (Does own [] w fun own' e w' => e = .returned (valT (.mk 3 ByteArray.empty n 0 0 []) (.slice none 0 0))) := by
  go_enter Try.func136, Try.ntmps136
  go_wp2_with fail
  (try simp only [Exit.inBlock, Exit.then])
  refine bodyPost_ret (v := .agg #[.int .i64 3, .string ByteArray.empty, .int .i64 n, .int .u64 0, .int .u64 0, .slice none 0 0]) ?_ rfl ?_
  · rw [results_cell1 rfl]
    go_simp
    try rfl
  · exact ⟨own, (Ext.refl own [] w).alloc _, rfl⟩
theorem r1comp_any (own : Nat → Nat) (s : ByteArray) (args : List Tm) (A : Option Addr) (len cap : Nat) (w : World) : Calls Try.prog 57 #[.string s, .slice A len cap] w (Does own [] w fun own' e w' => e = .returned (valT (.mk 5 s 0 0 0 args) (.slice A len cap))) := by
  go_enter Try.func57, Try.ntmps57
  go_wp2_with fail
  (try simp only [Exit.inBlock, Exit.then])
  refine bodyPost_ret (v := .agg #[.int .i64 5, .string s, .int .i64 0, .int .u64 0, .int .u64 0, .slice A len cap]) ?_ rfl ?_
  · rw [results_cell1 rfl]
    go_simp
    try rfl
  · exact ⟨own, (Ext.refl own [] w).alloc _, rfl⟩

theorem leaf_term {own : Nat → Nat} {w : World} {k n re im : Int} {s : ByteArray} (h : Rng k n re im s) : TmS own w (.mk k s n re im []) (.slice none 0 0) := ⟨h, none, 0, 0, rfl, rfl, Nat.le_refl _, Nat.zero_le _, trivial⟩

theorem flat6 : ∀ (l : List (Tm × Value)) (j : Nat) (z : Tm × Value), l[j]? = some z → ∀ q u, (cellsT z.1 z.2)[q]? = some u → (l.flatMap fun z => cellsT z.1 z.2)[j * 6 + q]? = some u
  | [], j, z, h, _, _, _ => by simp at h
  | a :: l, 0, z, h, q, u, hu => by
    simp at h
    subst h
    rw [List.flatMap_cons, List.getElem?_append_left (by have := (List.getElem?_eq_some_iff.1 hu).1; omega)]
    simpa using hu
  | a :: l, j + 1, z, h, q, u, hu => by
    have h1 := flat6 l j z (by simpa using h) q u hu
    rw [List.flatMap_cons, List.getElem?_append_right (by simp [cellsT]; omega)]
    have e : (j + 1) * 6 + q - (cellsT a.1 a.2).length = j * 6 + q := by simp [cellsT]; omega
    rw [e]; exact h1
/-- A slice of terms just built. -/
theorem TmL.built (own : Nat → Nat) (w : World) (l : List (Tm × Value)) (h : ∀ z ∈ l, TmS own w z.1 z.2) (hl : l.length ≤ maxLen) (ty : TypeId) (cs : List Value) (hcs : cs = l.flatMap fun z => cellsT z.1 z.2) :
    Ext own (give own w.heap.size 0) [] w (w.alloc (.cells cs.toArray ty)) ∧ TmL (give own w.heap.size 0) (w.alloc (.cells cs.toArray ty)) (l.map (·.1)) (some ⟨w.heap.size, 0, none⟩) l.length l.length := by
  subst hcs
  obtain ⟨_, kb, y⟩ := (Ext.refl own [] w).box (l.flatMap fun z => cellsT z.1 z.2) ty 0
  refine ⟨y, by simp, Nat.le_refl _, hl, TmE.of _ _ fun j t ht => ?_⟩
  rw [List.getElem?_map] at ht
  cases hz : l[j]? with
  | none => rw [hz] at ht; simp at ht
  | some z =>
    rw [hz] at ht
    simp at ht
    subst ht
    refine ⟨w.heap.size, 0, z.2, rfl, kb.lt, kb.2, TmS.keep y (by simp) z.1 _ (h z (List.mem_of_getElem? hz)), fun q u hu => ?_⟩
    have := kb.cell ((0 + j) * 6 + q) (by rw [Nat.zero_add]; exact flat6 l j z hz q u hu)
    rwa [Nat.zero_add]
theorem TmL.comp {own : Nat → Nat} {w : World} {l : List Tm} {A : Option Addr} {len cap : Nat} {k n re im : Int} {s : ByteArray} (h : TmL own w l A len cap) (hr : Rng k n re im s) : TmS own w (.mk k s n re im l) (.slice A len cap) := ⟨hr, A, len, cap, rfl, h.1, h.2.1, h.2.2.1, h.2.2.2⟩

end Go.Proofs.Ytlmcfclonncgbaa
