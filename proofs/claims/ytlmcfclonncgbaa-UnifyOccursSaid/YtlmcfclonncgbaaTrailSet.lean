/- The trail's Set (package trail): what stood there is kept, the cell is written. -/
import Derived.Test.YtlmcfclonncgbaaTrail
import Derived.Deep.RegionLaw
import Derived.BigRegion
import Derived.Deep.DeepCutAuto
namespace Go.Proofs.Ytlmcfclonncgbaa
open Go.RowKit
set_option linter.unusedVariables false

theorem news_one {W : World} {b : Nat} {y : Value} (h : W.cell? ⟨b, 0, none⟩ = some y) : ∀ j u, ([y] : List Value)[j]? = some u → W.cell? ((⟨b, 0, none⟩ : Addr).add j) = some u := by
  intro j u hj
  match j, hj with
  | 0, hj => simp at hj; subst hj; simpa [Addr.add] using h
theorem step_append_one {P : Program} {ops : Array Oper} {o : Oper} {a : Act} {K : Act → World → Prop} {Q : Exit → Act → World → Prop} {E : Prop} (hgd : o.guard = none) (s x : Operand) (t : TypeId)
    (ho : o.op = .call { callee := .builtin .append, args := #[s, x], argTypes := #[t, t] }) (e : TypeId) (z : Value) (bytes : Nat)
    (ht : P.underlying t = some (.slice e)) (hinfo : (P.info? e).map (fun i => (i.zero, i.size, i.bytes)) = some (some z, 1, bytes)) (hz : z.cells.size = 1) (hb0 : 0 < bytes)
    {own : Nat → Nat} {id n : Nat} {W0 W : World} {v : Value} {xs : List Value} (hs : a.eval s = v) (y : Value) (bx : Nat) (hx : a.eval x = .slice (some ⟨bx, 0, none⟩) 1 1) (h1 : y.oneCell' = true)
    (HO : Row own id W0 e 1 v n xs) (HB : Below W0.heap.size W0 W) (hnews : W.cell? ⟨bx, 0, none⟩ = some y) (hl : (n + 1) * bytes ≤ 140737488355328)
    (h : ∀ g cap w1 own1, Row own1 id w1 e 1 (.slice (some ⟨g, 0, none⟩) (n + 1) cap) (n + 1) (xs ++ [y]) → Ext own own1 [id] W0 w1 → (∀ b cs t', Blk own id W0 b cs t' → e ≠ t' → Blk own1 id w1 b cs t') →
      (∀ id' e' size' v' n' xs', Row own id' W0 e' size' v' n' xs' → (e' ≠ e ∨ id' ≠ id) → Row own1 id' w1 e' size' v' n' xs') → (W.heap.size ≤ w1.heap.size ∧ ∀ b, W0.heap.size ≤ b → b < W.heap.size → w1.heap[b]? = W.heap[b]?) →
      K (a.put o.dst (.slice (some ⟨g, 0, none⟩) (n + 1) cap)) w1) :
    if Region.wanted o (yielded ops a.tmps) = true then Oper.wp P o a W K Q else E :=
  step_append_later hgd s x t ho e z 1 bytes ht hinfo hz (by decide) hb0 hs ⟨bx, 0, none⟩ hx (ys := [y]) rfl (one_cell' _ h1) HO HB (news_one hnews) hl h
theorem bl1 (W : World) (o : Obj) : Below W.heap.size W (W.alloc o) := (Below.refl _ _).alloc (Nat.le_refl _) _
theorem bl2 (W : World) (o o' : Obj) : Below W.heap.size W ((W.alloc o).alloc o') := (bl1 W o).alloc (by simp) _
theorem cn1 (W : World) (y : Value) (t : TypeId) : (W.alloc (.cells #[y] t)).cell? ⟨W.heap.size, 0, none⟩ = some y := by
  rw [cell_of_row _ _ _ _ _ _ (heap_alloc_new W (.cells #[y] t))]; rfl
theorem cn2a (W : World) (y : Value) (t : TypeId) (o : Obj) : ((W.alloc (.cells #[y] t)).alloc o).cell? ⟨W.heap.size, 0, none⟩ = some y := by
  rw [World.cell?_of_block (w := W.alloc (.cells #[y] t)) (Below.heap_alloc _ _ _ (by simp))]
  exact cn1 W y t
theorem cn2b (W : World) (y : Value) (t : TypeId) (o : Obj) : ((W.alloc o).alloc (.cells #[y] t)).cell? ⟨W.heap.size + 1, 0, none⟩ = some y := by
  have h := cn1 (W.alloc o) y t
  rw [World.size_alloc] at h
  exact h
theorem cnl {W w1 : World} {b B : Nat} {y : Value} (h : W.cell? ⟨b, 0, none⟩ = some y) (hs : W.heap.size ≤ w1.heap.size ∧ ∀ k, B ≤ k → k < W.heap.size → w1.heap[k]? = W.heap[k]?) (hB : B ≤ b) : w1.cell? ⟨b, 0, none⟩ = some y := by
  have hlt := World.block_lt_of_cell? W _ h
  exact (World.cell?_of_block (hs.2 b hB hlt)).trans h
/-- One entry is kept. -/
theorem tset_push {own : Nat → Nat} {id p g g' cap cap' : Nat} {L : List (Int × Int)} {a c : Int} {w : World}
    (hb : Blk own id w p [.slice (some ⟨g, 0, none⟩) (L.length + 1) cap, .slice (some ⟨g', 0, none⟩) (L.length + 1) cap'] 159)
    (hr : Row own id w 3 1 (.slice (some ⟨g, 0, none⟩) (L.length + 1) cap) (L.length + 1) (nums64 (L.map (·.1)) ++ [.int .i64 a]))
    (hs : Row own id w 34 1 (.slice (some ⟨g', 0, none⟩) (L.length + 1) cap') (L.length + 1) (words (L.map (·.2)) ++ [.int .u64 c])) : TP own id w p (L ++ [(a, c)]) := by
  refine ⟨_, _, hb, ?_, ?_⟩
  · simpa [nums64] using hr
  · simpa [words] using hs

theorem tset_end {own own1 : Nat → Nat} {idt pt g1 cap1 g2 cap2 : Nat} {v1 v2 : Value} {W W1 : World} {L : List (Int × Int)} {a c : Int} (x : Ext own own1 [idt] W W1) (ho : own pt = idt) (hb : Blk own1 idt W1 pt [v1, v2] 159)
    (hr : Row own1 idt W1 3 1 (.slice (some ⟨g1, 0, none⟩) (L.length + 1) cap1) (L.length + 1) (nums64 (L.map (·.1)) ++ [.int .i64 a]))
    (hs : Row own1 idt W1 34 1 (.slice (some ⟨g2, 0, none⟩) (L.length + 1) cap2) (L.length + 1) (words (L.map (·.2)) ++ [.int .u64 c])) :
    ∃ own', Ext own own' [idt] W ((W1.setCell ⟨pt, 0, none⟩ (.slice (some ⟨g1, 0, none⟩) (L.length + 1) cap1)).setCell ⟨pt, 1, none⟩ (.slice (some ⟨g2, 0, none⟩) (L.length + 1) cap2)) ∧
      TP own' idt ((W1.setCell ⟨pt, 0, none⟩ (.slice (some ⟨g1, 0, none⟩) (L.length + 1) cap1)).setCell ⟨pt, 1, none⟩ (.slice (some ⟨g2, 0, none⟩) (L.length + 1) cap2)) pt (L ++ [(a, c)]) := by
  have n1 := hr.ne_blk hb (by decide)
  have n2 := hs.ne_blk hb (by decide)
  exact ⟨own1, (x.setCell _ _ (fun _ => by show own pt ∈ [idt]; rw [ho]; simp)).setCell _ _ (fun _ => by show own pt ∈ [idt]; rw [ho]; simp),
    tset_push ((hb.set 0 _).set 1 _) ((hr.far (p := ⟨pt, 0, none⟩) n1 _).far (p := ⟨pt, 1, none⟩) n1 _) ((hs.far (p := ⟨pt, 0, none⟩) n2 _).far (p := ⟨pt, 1, none⟩) n2 _)⟩
theorem tset_end' {own own1 : Nat → Nat} {idt pt g1 cap1 g2 cap2 : Nat} {v1 v2 : Value} {W W1 : World} {L : List (Int × Int)} {a c : Int} (x : Ext own own1 [idt] W W1) (ho : own pt = idt) (hb : Blk own1 idt W1 pt [v1, v2] 159)
    (hr : Row own1 idt W1 3 1 (.slice (some ⟨g1, 0, none⟩) (L.length + 1) cap1) (L.length + 1) (nums64 (L.map (·.1)) ++ [.int .i64 a]))
    (hs : Row own1 idt W1 34 1 (.slice (some ⟨g2, 0, none⟩) (L.length + 1) cap2) (L.length + 1) (words (L.map (·.2)) ++ [.int .u64 c])) :
    ∃ own', Ext own own' [idt] W ((W1.setCell ⟨pt, 1, none⟩ (.slice (some ⟨g2, 0, none⟩) (L.length + 1) cap2)).setCell ⟨pt, 0, none⟩ (.slice (some ⟨g1, 0, none⟩) (L.length + 1) cap1)) ∧
      TP own' idt ((W1.setCell ⟨pt, 1, none⟩ (.slice (some ⟨g2, 0, none⟩) (L.length + 1) cap2)).setCell ⟨pt, 0, none⟩ (.slice (some ⟨g1, 0, none⟩) (L.length + 1) cap1)) pt (L ++ [(a, c)]) := by
  have n1 := hr.ne_blk hb (by decide)
  have n2 := hs.ne_blk hb (by decide)
  exact ⟨own1, (x.setCell _ _ (fun _ => by show own pt ∈ [idt]; rw [ho]; simp)).setCell _ _ (fun _ => by show own pt ∈ [idt]; rw [ho]; simp),
    tset_push ((hb.set 1 _).set 0 _) ((hr.far (p := ⟨pt, 1, none⟩) n1 _).far (p := ⟨pt, 0, none⟩) n1 _) ((hs.far (p := ⟨pt, 1, none⟩) n2 _).far (p := ⟨pt, 0, none⟩) n2 _)⟩

set_option maxHeartbeats 8000000 in
set_option maxRecDepth 100000 in
theorem tset_in (own : Nat → Nat) (idh idt ph pt : Nat) (most at_ c : Int) (l : List Int) (L : List (Int × Int)) (w : World) (h : HP own idh w ph most l) (ht : TP own idt w pt L) (hid : idh ≠ idt) (h0 : 0 ≤ at_) (hlt : at_ < l.length) (hL : L.length < 1000000000) :
    Calls Try.prog 112 #[.pointer (some ⟨pt, 0, none⟩), .pointer (some ⟨ph, 0, none⟩), .int .i64 at_, .int .u64 c] w
      (Does own [idh, idt] w fun own' e w' => e = .returned (.bool true) ∧ HP own' idh w' ph most (l.set at_.toNat c) ∧ TP own' idt w' pt (L ++ [(at_, l.getD at_.toNat 0)])) := by
  have ht' := ht
  obtain ⟨vp, vc, hb, hr, hs⟩ := ht'
  obtain ⟨Ap, capp, rfl, hcp⟩ := hr.form
  obtain ⟨Ac, capc, rfl, hcc⟩ := hs.form
  have hg := get_in own idh ph most at_ l w h h0 hlt
  have HG := Lib.hid hg
  clear hg
  generalize l.getD at_.toNat 0 = x at *
  go_enter Try.func112, Try.ntmps112
  go_wp2_with fail
  refine HG.out.mono ?_
  rintro e w1 ⟨rfl, n, rfl⟩
  replace hb : Blk own idt (w.drewN n) pt _ _ := hb
  replace hr : Row own idt (w.drewN n) _ _ _ _ _ := hr
  replace hs : Row own idt (w.drewN n) _ _ _ _ _ := hs
  have h1 := h.dr n
  have x0 := (Ext.refl own [idh, idt] w).drewN n
  generalize w.drewN n = W at *
  have c0 := hb.cell 0 rfl
  have c1 := hb.cell 1 rfl
  have f0 := hb.free 0
  have f1 := hb.free 1
  have l0 := hb.lt
  go_upto_region 4 with fail
  go_cut [] (fun wc => ∃ own', Ext own own' [idt] W wc ∧ TP own' idt wc pt (L ++ [(at_, x)]))
  case first =>
    go_region_law (first | (refine step_append_one rfl (.tmp 35) (.tmp 37) 62 rfl 34 (.int .u64 0) 8 Try.underlying62 info_cell rfl (by decide) rfl (.int .u64 x) _ rfl rfl hsA ?_ ?_ ?_ ?_; (first | exact Below.refl _ _ | exact bl1 _ _ | exact (bl1 _ _).drew | exact bl2 _ _ _ | exact (bl2 _ _ _).drew | exact (bl1 _ _).drew.drew | exact (bl2 _ _ _).drew.drew); (first | exact cn1 _ _ _ | exact cn2a _ _ _ _ | exact cn2b _ _ _ _ | exact cnl (cn2a _ _ _ _) sA (Nat.le_refl _) | exact cnl (cn2b _ _ _ _) sA (Nat.le_succ _)); omega; intro g2 cap2 wB ownB hsB xB bB rB sB; have hbB := bB _ _ _ hbA (by decide); have hrB := rB _ _ _ _ _ _ hrA (Or.inl (by decide)); have xAB := xA.trans xB; have fB0 := hbB.free 0; have fB1 := hbB.free 1; have dB0 := hbB.cell 0 rfl; have dB1 := hbB.cell 1 rfl) | (refine step_append_one rfl (.tmp 28) (.tmp 30) 157 rfl 3 (.int .i64 0) 8 Try.underlying157 info_int rfl (by decide) rfl (.int .i64 at_) _ rfl rfl hrC ?_ ?_ ?_ ?_; (first | exact Below.refl _ _ | exact bl1 _ _ | exact (bl1 _ _).drew | exact bl2 _ _ _ | exact (bl2 _ _ _).drew | exact (bl1 _ _).drew.drew | exact (bl2 _ _ _).drew.drew); (first | exact cn1 _ _ _ | exact cn2a _ _ _ _ | exact cn2b _ _ _ _ | exact cnl (cn2a _ _ _ _) sC (Nat.le_refl _) | exact cnl (cn2b _ _ _ _) sC (Nat.le_succ _)); omega; intro g1 cap1 wB ownB hrB xB bB rB sB; have hbB := bB _ _ _ hbC (by decide); have hsB := rB _ _ _ _ _ _ hsC (Or.inl (by decide)); have xAB := xC.trans xB; have fB0 := hbB.free 0; have fB1 := hbB.free 1; have dB0 := hbB.cell 0 rfl; have dB1 := hbB.cell 1 rfl) | (refine step_append_one rfl (.tmp 28) (.tmp 30) 157 rfl 3 (.int .i64 0) 8 Try.underlying157 info_int rfl (by decide) rfl (.int .i64 at_) _ rfl rfl hr ?_ ?_ ?_ ?_; (first | exact Below.refl _ _ | exact bl1 _ _ | exact (bl1 _ _).drew | exact bl2 _ _ _ | exact (bl2 _ _ _).drew | exact (bl1 _ _).drew.drew | exact (bl2 _ _ _).drew.drew); (first | exact cn1 _ _ _ | exact cn2a _ _ _ _ | exact cn2b _ _ _ _); omega; intro g1 cap1 wA ownA hrA xA bA rA sA; have hbA := bA _ _ _ hb (by decide); have hsA := rA _ _ _ _ _ _ hs (Or.inl (by decide)); have dA0 := hbA.cell 0 rfl; have dA1 := hbA.cell 1 rfl; have lA := hbA.lt) | (refine step_append_one rfl (.tmp 35) (.tmp 37) 62 rfl 34 (.int .u64 0) 8 Try.underlying62 info_cell rfl (by decide) rfl (.int .u64 x) _ rfl rfl hs ?_ ?_ ?_ ?_; (first | exact Below.refl _ _ | exact bl1 _ _ | exact (bl1 _ _).drew | exact bl2 _ _ _ | exact (bl2 _ _ _).drew | exact (bl1 _ _).drew.drew | exact (bl2 _ _ _).drew.drew); (first | exact cn1 _ _ _ | exact cn2a _ _ _ _ | exact cn2b _ _ _ _); omega; intro g2 cap2 wC ownC hsC xC bC rC sC; have hbC := bC _ _ _ hb (by decide); have hrC := rC _ _ _ _ _ _ hr (Or.inl (by decide)); have dC0 := hbC.cell 0 rfl; have dC1 := hbC.cell 1 rfl; have lC := hbC.lt))
    all_goals (go_wp2_with fail; go_meet)
    all_goals first
      | exact tset_end xAB hb.2 hbB hrB hsB
      | exact tset_end' xAB hb.2 hbB hrB hsB
  case rest =>
    obtain ⟨own1, y1, hT⟩ := hcut
    have hH := h1.keep y1 (by simpa using hid)
    have hse := set_in own1 idh ph most at_ c l wc hH h0 hlt
    have HSE := Lib.hid hse
    clear hse c0 c1 f0 f1 hb hr hs
    go_wp2_with fail
    refine HSE.out.mono ?_
    rintro e w2 ⟨own2, y2, rfl, h2⟩
    go_wp2_with fail
    go_ret
    exact ⟨own2, (x0.trans (y1.mono (by simp))).trans (y2.mono (by simp)), rfl, h2, hT.keep y2 (by simpa using hid.symm)⟩

theorem tset_out (own : Nat → Nat) (idh ph : Nat) (t : Option Addr) (most at_ c : Int) (l : List Int) (w : World) (h : HP own idh w ph most l) (hlt : at_ < 0 ∨ (l.length : Int) ≤ at_) :
    Calls Try.prog 112 #[.pointer t, .pointer (some ⟨ph, 0, none⟩), .int .i64 at_, .int .u64 c] w (Quiet w (.bool false)) := by
  have hg := get_out own idh ph most at_ l w h hlt
  have HG := Lib.hid hg
  clear hg hlt
  cases t with
  | none =>
    go_enter Try.func112, Try.ntmps112
    go_wp2_with (go_at_call 36; refine HG.out.mono ?_; rintro e w1 ⟨rfl, n, rfl⟩)
    go_ret
    exact ⟨rfl, _, rfl⟩
  | some a =>
    go_enter Try.func112, Try.ntmps112
    go_wp2_with (go_at_call 36; refine HG.out.mono ?_; rintro e w1 ⟨rfl, n, rfl⟩)
    go_ret
    exact ⟨rfl, _, rfl⟩
theorem tset_nil (own : Nat → Nat) (idh ph : Nat) (most at_ c : Int) (l : List Int) (w : World) (h : HP own idh w ph most l) :
    Calls Try.prog 112 #[.pointer none, .pointer (some ⟨ph, 0, none⟩), .int .i64 at_, .int .u64 c] w (Quiet w (.bool false)) := by
  by_cases hi : 0 ≤ at_ ∧ at_ < l.length
  · have hg := get_in own idh ph most at_ l w h hi.1 hi.2
    have HG := Lib.hid hg
    clear hg
    go_enter Try.func112, Try.ntmps112
    go_wp2_with (go_at_call 36; refine HG.out.mono ?_; rintro e w1 ⟨rfl, n, rfl⟩)
    go_ret
    exact ⟨rfl, _, rfl⟩
  · exact tset_out own idh ph none most at_ c l w h (by omega)
/-- What becomes of the entries. -/
def keptL (l : List Int) (L : List (Int × Int)) (i : Int) : List (Int × Int) := if inB l i then L ++ [(i, l.getD i.toNat 0)] else L
theorem tset_any (own : Nat → Nat) (idh idt ph pt : Nat) (most at_ c : Int) (l : List Int) (L : List (Int × Int)) (w : World) (h : HP own idh w ph most l) (ht : TP own idt w pt L) (hid : idh ≠ idt) (hL : L.length < 1000000000) :
    Calls Try.prog 112 #[.pointer (some ⟨pt, 0, none⟩), .pointer (some ⟨ph, 0, none⟩), .int .i64 at_, .int .u64 c] w
      (Does own [idh, idt] w fun own' e w' => e = .returned (.bool (inB l at_)) ∧ HP own' idh w' ph most (setL l at_ c) ∧ TP own' idt w' pt (keptL l L at_)) := by
  by_cases hi : 0 ≤ at_ ∧ at_ < l.length
  · have := tset_in own idh idt ph pt most at_ c l L w h ht hid hi.1 hi.2 hL
    unfold setL keptL; rw [inB_true hi.1 hi.2]; simpa using this
  · refine (tset_out own idh ph _ most at_ c l w h (by omega)).mono fun e w' hq => ?_
    obtain ⟨rfl, n, rfl⟩ := hq
    unfold setL keptL; rw [inB_false (by omega)]
    exact ⟨own, (Ext.refl _ _ _).drewN _, rfl, h, ht⟩

end Go.Proofs.Ytlmcfclonncgbaa
