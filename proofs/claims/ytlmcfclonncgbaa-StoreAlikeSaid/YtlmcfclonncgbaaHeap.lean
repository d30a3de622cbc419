/- The heap's calls (package heap), each by a contract: what it answers, what becomes of the heap's cells, and that no other object is touched. -/
import Derived.Test.YtlmcfclonncgbaaRows
import Derived.Test.YtlmcfclonncgbaaMem
import Derived.Test.YtlmcfclonncgbaaCell
import Derived.BigQuiet
import Derived.Deep.QuietTactic
import Derived.WalkLawsBesides
import Derived.WalkSpells
namespace Go.Proofs.Ytlmcfclonncgbaa
open Go.RowKit

theorem info_cell : (Try.prog.info? 34).map (fun i => (i.zero, i.size, i.bytes)) = some (some (.int .u64 0), 1, 8) := by kernel_rfl

/-- Words as values. -/
def words (l : List Int) : List Value := l.map (Value.int .u64)
theorem words_length (l : List Int) : (words l).length = l.length := by simp [words]
theorem words_append (l m : List Int) : words (l ++ m) = words l ++ words m := by simp [words]
theorem words_get (l : List Int) (j : Nat) (h : j < l.length) : (words l)[j]? = some (.int .u64 (l.getD j 0)) := by simp [words, h]
theorem words_take (l : List Int) (j : Nat) : (words l).take j = words (l.take j) := by simp [words, List.map_take]
theorem words_set (l : List Int) (j : Nat) (x : Int) : (words l).set j (.int .u64 x) = words (l.set j x) := by simp [words]

/-- A heap at block p: how many cells at most, the cells. -/
def HP (own : Nat → Nat) (id : Nat) (w : World) (p : Nat) (most : Int) (l : List Int) : Prop :=
  ∃ v, Blk own id w p [.int .i64 most, v] 121 ∧ Row own id w 34 1 v l.length (words l) ∧ (l.length : Int) ≤ most ∧ most ≤ 1048576
theorem HP.keep {own own' : Nat → Nat} {id p : Nat} {ids : List Nat} {w w' : World} {most : Int} {l : List Int} (h : HP own id w p most l) (x : Ext own own' ids w w') (hi : id ∉ ids) : HP own' id w' p most l := by
  obtain ⟨v, hb, hr, h1, h2⟩ := h
  exact ⟨v, hb.keep x hi, hr.keep x hi, h1, h2⟩
theorem HP.dr {own : Nat → Nat} {id p : Nat} {w : World} {most : Int} {l : List Int} (h : HP own id w p most l) (n : Nat) : HP own id (w.drewN n) p most l := h
theorem HP.len {own : Nat → Nat} {id p : Nat} {w : World} {most : Int} {l : List Int} (h : HP own id w p most l) : (l.length : Int) ≤ most ∧ most ≤ 1048576 := by
  obtain ⟨_, _, _, h1, h2⟩ := h; exact ⟨h1, h2⟩

/-- 'New': max(0, min(most, MaxCells)). -/
def mostOf (most : Int) : Int := if most > 1048576 then 1048576 else if most > 0 then most else 0
theorem mostOf_range (most : Int) : 0 ≤ mostOf most ∧ mostOf most ≤ 1048576 := by unfold mostOf; split <;> (try split) <;> omega
theorem new_end (own : Nat → Nat) (id : Nat) (w : World) (m : Int) (h0 : 0 ≤ m) (h1 : m ≤ 1048576) :
    Ext own (give own w.heap.size id) [] w (w.alloc (.cells #[.int .i64 m, .slice none 0 0] 121)) ∧ HP (give own w.heap.size id) id (w.alloc (.cells #[.int .i64 m, .slice none 0 0] 121)) w.heap.size m [] :=
  ⟨((Ext.refl own [] w).alloc _).give _ _ (Nat.le_refl _), _, ⟨heap_alloc_new _ _, give_same _ _ _⟩, Row.nil _ _ _ _ _, by simpa using h0, h1⟩
def MadeHeap (own : Nat → Nat) (w : World) (id : Nat) (m : Int) (e : Ending) (w' : World) : Prop :=
  ∃ own', Ext own own' [] w w' ∧ e = .returned (.pointer (some ⟨w.heap.size, 0, none⟩)) ∧ w.heap.size < w'.heap.size ∧ HP own' id w' w.heap.size m []
theorem new_any (own : Nat → Nat) (id : Nat) (most : Int) (w : World) : Calls Try.prog 26 #[.int .i64 most] w (MadeHeap own w id (mostOf most)) := by
  have fin : ∀ m, m = mostOf most → MadeHeap own w id (mostOf most) (.returned (.pointer (some ⟨w.heap.size, 0, none⟩))) (w.alloc (.cells #[.int .i64 m, .slice none 0 0] 121)) := by
    intro m hm
    subst hm
    exact ⟨_, (new_end own id w _ (mostOf_range most).1 (mostOf_range most).2).1, rfl, by simp, (new_end own id w _ (mostOf_range most).1 (mostOf_range most).2).2⟩
  go_enter Try.func26, Try.ntmps26
  go_wp2_with fail
  all_goals
    go_ret
    refine fin _ ?_
    unfold mostOf
    (repeat' split) <;> omega

/-- In a region that draws its order: a callee that leaves the world alone. -/
theorem quiet_gen {P : Program} {f : FuncId} {args : Array Value} {X : World} {F : Nat → World} {v : Value} (h : Calls P f args X fun e w' => e = .returned v ∧ w' = X) (hx : ∃ m, X = F m) :
    Calls P f args X fun e w'' => e = .returned v ∧ ∃ m, w'' = F m :=
  h.mono fun _ _ ⟨he, hm⟩ => ⟨he, by rw [hm]; exact hx⟩
/-- A call that reads: the answer; the world but for draws. -/
def Quiet (w : World) (v : Value) (e : Ending) (w' : World) : Prop := e = .returned v ∧ ∃ n, w' = w.drewN n
theorem Quiet.same {w w' : World} {v : Value} {e : Ending} (h : e = .returned v ∧ w' = w) : Quiet w v e w' := ⟨h.1, 0, h.2⟩

set_option maxHeartbeats 400000 in
/-- 'Push', where there is room. -/
theorem push_room (own : Nat → Nat) (id p : Nat) (most c : Int) (l : List Int) (w : World) (h : HP own id w p most l) (hlt : (l.length : Int) < most) :
    Calls Try.prog 44 #[.pointer (some ⟨p, 0, none⟩), .int .u64 c] w
      (Does own [id] w fun own' e w' => e = .returned (.tuple #[.int .i64 l.length, .int .i64 0]) ∧ HP own' id w' p most (l ++ [c])) := by
  obtain ⟨v, hb, hr, h1, h2⟩ := h
  have c0 := hb.cell 0 rfl
  have c1 := hb.cell 1 rfl
  obtain ⟨A, cap, rfl, hc⟩ := hr.form
  have hd : ((l.length : Int) == most) = false := by simp; omega
  go_enter Try.func44, Try.ntmps44
  go_wp2_with fail
  go_quiet (fail)
  go_wp2_with (at_builtin; refine wpList_append_row rfl _ _ 62 rfl 34 (.int .u64 0) 1 8 Try.underlying62 info_cell rfl (by decide) (by decide) rfl rfl rfl (one_cell' _ rfl) hr (by omega) ?_)
  intro g cap' w1 own1 hr1 x1 hk1 hz
  have hb1 := hk1 p _ _ hb (by decide)
  clear hk1 hz
  have d1 := hb1.cell 1 rfl
  have f1 := hb1.free 1
  have hq : 0 ≤ (l.length : Int) := by omega
  go_wp2
  go_ret2
  have hne : (Value.slice (some ⟨g, 0, none⟩) (l.length + 1) cap').ownBlock ≠ some p := hr1.ne_blk hb1 (by decide)
  refine ⟨own1, ?_, ret_pair (by omega), _, hb1.set 1 _, ?_, by simp; omega, h2⟩
  · exact x1.ofDrew.setCell _ _ (fun _ => by show own p ∈ [id]; rw [hb.2]; simp)
  · have := hr1.far (p := ⟨p, 1, none⟩) hne (Value.slice (some ⟨g, 0, none⟩) (l.length + 1) cap')
    rw [words_append, List.length_append]
    exact this

set_option maxHeartbeats 400000 in
/-- 'Push', where there is none. -/
theorem push_full (own : Nat → Nat) (id p : Nat) (most c : Int) (l : List Int) (w : World) (h : HP own id w p most l) (hlt : (l.length : Int) = most) :
    Calls Try.prog 44 #[.pointer (some ⟨p, 0, none⟩), .int .u64 c] w
      (Quiet w (.tuple #[.int .i64 0, .int .i64 4])) := by
  obtain ⟨v, hb, hr, h1, h2⟩ := h
  have c0 := hb.cell 0 rfl
  have c1 := hb.cell 1 rfl
  obtain ⟨A, cap, rfl, hc⟩ := hr.form
  have hd : ((l.length : Int) == most) = true := by simp; omega
  clear hlt
  go_enter Try.func44, Try.ntmps44
  go_wp2_with fail
  go_quiet (fail)
  go_wp2
  go_ret2
  exact ⟨rfl, _, rfl⟩

theorem push_nil (c : Int) (w : World) : Calls Try.prog 44 #[.pointer none, .int .u64 c] w (Quiet w (.tuple #[.int .i64 0, .int .i64 1])) := by
  go_enter Try.func44, Try.ntmps44
  go_wp2
  go_ret2
  exact ⟨rfl, 0, rfl⟩

theorem most_any (own : Nat → Nat) (id p : Nat) (most : Int) (l : List Int) (w : World) (h : HP own id w p most l) : Calls Try.prog 98 #[.pointer (some ⟨p, 0, none⟩)] w (Quiet w (.int .i64 most)) := by
  obtain ⟨v, hb, hr, h1, h2⟩ := h
  have c0 := hb.cell 0 rfl
  have c1 := hb.cell 1 rfl
  obtain ⟨A, cap, rfl, hc⟩ := hr.form
  go_enter Try.func98, Try.ntmps98
  go_wp2_with fail
  go_ret
  exact ⟨rfl, 0, rfl⟩
theorem most_nil (w : World) : Calls Try.prog 98 #[.pointer none] w (Quiet w (.int .i64 0)) := by
  go_enter Try.func98, Try.ntmps98
  go_wp2
  go_ret
  exact ⟨rfl, 0, rfl⟩

theorem len_any (own : Nat → Nat) (id p : Nat) (most : Int) (l : List Int) (w : World) (h : HP own id w p most l) : Calls Try.prog 31 #[.pointer (some ⟨p, 0, none⟩)] w (Quiet w (.int .i64 l.length)) := by
  obtain ⟨v, hb, hr, h1, h2⟩ := h
  have c0 := hb.cell 0 rfl
  have c1 := hb.cell 1 rfl
  obtain ⟨A, cap, rfl, hc⟩ := hr.form
  go_enter Try.func31, Try.ntmps31
  go_wp2_with fail
  go_ret
  exact ⟨rfl, 0, rfl⟩
theorem len_nil (w : World) : Calls Try.prog 31 #[.pointer none] w (Quiet w (.int .i64 0)) := by
  go_enter Try.func31, Try.ntmps31
  go_wp2
  go_ret
  exact ⟨rfl, 0, rfl⟩

/-- Is there such a place? -/
def inB (l : List Int) (i : Int) : Bool := decide (0 ≤ i) && decide (i < (l.length : Int))
theorem inB_true {l : List Int} {i : Int} (h0 : 0 ≤ i) (h1 : i < l.length) : inB l i = true := by simp [inB, h0, h1]
theorem inB_false {l : List Int} {i : Int} (h : i < 0 ∨ (l.length : Int) ≤ i) : inB l i = false := by
  unfold inB
  rcases h with h | h
  · rw [decide_eq_false (by omega : ¬ 0 ≤ i)]; rfl
  · rw [decide_eq_false (by omega : ¬ i < (l.length : Int))]; simp
theorem inB_iff {l : List Int} {i : Int} : inB l i = true ↔ 0 ≤ i ∧ i < l.length := by simp [inB]
def getV (l : List Int) (i : Int) : Int := if inB l i then l.getD i.toNat 0 else 0

theorem get_in (own : Nat → Nat) (id p : Nat) (most at_ : Int) (l : List Int) (w : World) (h : HP own id w p most l) (h0 : 0 ≤ at_) (hlt : at_ < l.length) :
    Calls Try.prog 36 #[.pointer (some ⟨p, 0, none⟩), .int .i64 at_] w (Quiet w (.tuple #[.int .u64 (l.getD at_.toNat 0), .bool true])) := by
  have h' := h
  obtain ⟨v, hb, hr, h1, h2⟩ := h
  obtain ⟨k, rfl⟩ := Int.eq_ofNat_of_zero_le h0
  have c1 := hb.cell 1 rfl
  obtain ⟨g, cap, rfl, hc⟩ := hr.form_pos (by omega)
  have ck := hr.cell k (words_get l k (by omega))
  rw [Int.toNat_natCast]
  go_enter Try.func36, Try.ntmps36
  go_wp2_with (go_at_call 31; refine (len_any own id p most l _ h').mono ?_; rintro e w' ⟨rfl, n, rfl⟩)
  go_ret2
  exact ⟨rfl, _, rfl⟩
theorem get_out (own : Nat → Nat) (id p : Nat) (most at_ : Int) (l : List Int) (w : World) (h : HP own id w p most l) (hlt : at_ < 0 ∨ (l.length : Int) ≤ at_) :
    Calls Try.prog 36 #[.pointer (some ⟨p, 0, none⟩), .int .i64 at_] w (Quiet w (.tuple #[.int .u64 0, .bool false])) := by
  by_cases h0 : at_ < 0
  · go_enter Try.func36, Try.ntmps36
    go_wp2_with fail
    go_ret2
    exact ⟨rfl, 0, rfl⟩
  · have h1 : (l.length : Int) ≤ at_ := by omega
    go_enter Try.func36, Try.ntmps36
    go_wp2_with (go_at_call 31; refine (len_any own id p most l _ h).mono ?_; rintro e w' ⟨rfl, n, rfl⟩)
    go_ret2
    exact ⟨rfl, _, rfl⟩
theorem get_any (own : Nat → Nat) (id p : Nat) (most at_ : Int) (l : List Int) (w : World) (h : HP own id w p most l) :
    Calls Try.prog 36 #[.pointer (some ⟨p, 0, none⟩), .int .i64 at_] w (Quiet w (.tuple #[.int .u64 (getV l at_), .bool (inB l at_)])) := by
  by_cases hi : 0 ≤ at_ ∧ at_ < l.length
  · have := get_in own id p most at_ l w h hi.1 hi.2
    unfold getV; rw [inB_true hi.1 hi.2]; simpa using this
  · have := get_out own id p most at_ l w h (by omega)
    unfold getV; rw [inB_false (by omega)]; simpa using this
theorem get_nil (at_ : Int) (w : World) : Calls Try.prog 36 #[.pointer none, .int .i64 at_] w (Quiet w (.tuple #[.int .u64 0, .bool false])) := by
  by_cases h0 : at_ < 0
  · go_enter Try.func36, Try.ntmps36
    go_wp2_with fail
    go_ret2
    exact ⟨rfl, 0, rfl⟩
  · have h1 : 0 ≤ at_ := by omega
    go_enter Try.func36, Try.ntmps36
    go_wp2_with (go_at_call 31; refine (len_nil _).mono ?_; rintro e w' ⟨rfl, n, rfl⟩)
    go_ret2
    exact ⟨rfl, _, rfl⟩

theorem set_in (own : Nat → Nat) (id p : Nat) (most at_ c : Int) (l : List Int) (w : World) (h : HP own id w p most l) (h0 : 0 ≤ at_) (hlt : at_ < l.length) :
    Calls Try.prog 88 #[.pointer (some ⟨p, 0, none⟩), .int .i64 at_, .int .u64 c] w
      (Does own [id] w fun own' e w' => e = .returned (.bool true) ∧ HP own' id w' p most (l.set at_.toNat c)) := by
  have h' := h
  obtain ⟨v, hb, hr, h1, h2⟩ := h
  obtain ⟨k, rfl⟩ := Int.eq_ofNat_of_zero_le h0
  have c1 := hb.cell 1 rfl
  obtain ⟨g, cap, rfl, hc⟩ := hr.form_pos (by omega)
  have ck := hr.cell k (words_get l k (by omega))
  have fk := hr.free k
  rw [Int.toNat_natCast]
  go_enter Try.func88, Try.ntmps88
  go_wp2_with (go_at_call 31; refine (len_any own id p most l _ h').mono ?_; rintro e w' ⟨rfl, n, rfl⟩)
  go_ret
  have hne := hr.ne_blk hb (by decide)
  refine ⟨own, ?_, rfl, _, (hb.far (p := ⟨g, k, none⟩) (fun e => hne (by simp [Value.ownBlock]; exact e)) _), ?_, by simpa using h1, h2⟩
  · refine Ext.setCell ?_ _ _ (fun _ => ?_)
    · exact (Ext.refl own [id] w).drewN _
    · show own g ∈ [id]
      rw [hr.2 g rfl]; simp
  · have := hr.set k (Value.int .u64 c)
    rw [words_set] at this
    rw [List.length_set]
    exact this
theorem set_out (own : Nat → Nat) (id p : Nat) (most at_ c : Int) (l : List Int) (w : World) (h : HP own id w p most l) (hlt : at_ < 0 ∨ (l.length : Int) ≤ at_) :
    Calls Try.prog 88 #[.pointer (some ⟨p, 0, none⟩), .int .i64 at_, .int .u64 c] w (Quiet w (.bool false)) := by
  by_cases h0 : at_ < 0
  · go_enter Try.func88, Try.ntmps88
    go_wp2_with fail
    go_ret
    exact ⟨rfl, 0, rfl⟩
  · have h1 : (l.length : Int) ≤ at_ := by omega
    go_enter Try.func88, Try.ntmps88
    go_wp2_with (go_at_call 31; refine (len_any own id p most l _ h).mono ?_; rintro e w' ⟨rfl, n, rfl⟩)
    go_ret
    exact ⟨rfl, _, rfl⟩
theorem set_nil (at_ c : Int) (w : World) : Calls Try.prog 88 #[.pointer none, .int .i64 at_, .int .u64 c] w (Quiet w (.bool false)) := by
  by_cases h0 : at_ < 0
  · go_enter Try.func88, Try.ntmps88
    go_wp2_with fail
    go_ret
    exact ⟨rfl, 0, rfl⟩
  · have h1 : 0 ≤ at_ := by omega
    go_enter Try.func88, Try.ntmps88
    go_wp2_with (go_at_call 31; refine (len_nil _).mono ?_; rintro e w' ⟨rfl, n, rfl⟩)
    go_ret
    exact ⟨rfl, _, rfl⟩
/-- What becomes of the cells. -/
def setL (l : List Int) (i c : Int) : List Int := if inB l i then l.set i.toNat c else l
theorem Quiet.does {own : Nat → Nat} {id : Nat} {w w' : World} {v : Value} {e : Ending} {R : (Nat → Nat) → Ending → World → Prop} (h : Quiet w v e w') (hR : ∀ n, R own (.returned v) (w.drewN n)) : Does own [id] w R e w' := by
  obtain ⟨rfl, n, rfl⟩ := h
  exact ⟨own, (Ext.refl own [id] w).drewN n, hR n⟩
theorem set_any (own : Nat → Nat) (id p : Nat) (most at_ c : Int) (l : List Int) (w : World) (h : HP own id w p most l) :
    Calls Try.prog 88 #[.pointer (some ⟨p, 0, none⟩), .int .i64 at_, .int .u64 c] w
      (Does own [id] w fun own' e w' => e = .returned (.bool (inB l at_)) ∧ HP own' id w' p most (setL l at_ c)) := by
  by_cases hi : 0 ≤ at_ ∧ at_ < l.length
  · have := set_in own id p most at_ c l w h hi.1 hi.2
    unfold setL; rw [inB_true hi.1 hi.2]; simpa using this
  · refine (set_out own id p most at_ c l w h (by omega)).mono fun e w' hq => hq.does fun n => ?_
    unfold setL; rw [inB_false (by omega)]
    exact ⟨rfl, h⟩
/-- What becomes of the cells behind 'Push', and what it answers. -/
def pushL (most : Int) (l : List Int) (c : Int) : List Int := if (l.length : Int) < most then l ++ [c] else l
def pushV (most : Int) (l : List Int) : Value := if (l.length : Int) < most then .tuple #[.int .i64 l.length, .int .i64 0] else .tuple #[.int .i64 0, .int .i64 4]
theorem push_any (own : Nat → Nat) (id p : Nat) (most c : Int) (l : List Int) (w : World) (h : HP own id w p most l) :
    Calls Try.prog 44 #[.pointer (some ⟨p, 0, none⟩), .int .u64 c] w
      (Does own [id] w fun own' e w' => e = .returned (pushV most l) ∧ HP own' id w' p most (pushL most l c)) := by
  by_cases hi : (l.length : Int) < most
  · have := push_room own id p most c l w h hi
    unfold pushV pushL; simpa [hi] using this
  · refine (push_full own id p most c l w h (by have := h.len; omega)).mono fun e w' hq => hq.does fun n => ?_
    unfold pushV pushL; rw [if_neg hi, if_neg hi]
    exact ⟨rfl, h⟩


theorem var_room (own : Nat → Nat) (id p : Nat) (most : Int) (l : List Int) (w : World) (h : HP own id w p most l) (hi : (l.length : Int) < most) :
    Calls Try.prog 82 #[.pointer (some ⟨p, 0, none⟩)] w
      (Does own [id] w fun own' e w' => e = .returned (.tuple #[.int .i64 l.length, .int .i64 0]) ∧ HP own' id w' p most (l ++ [(l.length : Int) * 8])) := by
  have hl := h.len
  go_enter Try.func82, Try.ntmps82
  go_wp2_with (first | (go_at_call 31; refine (len_any own id p most l _ h).mono ?_; rintro e w' ⟨rfl, n, rfl⟩) | (go_at_call 118; refine (make_ok _ _ _ (by omega) (by omega) (by omega) (by omega)).mono ?_; rintro e w' ⟨rfl, rfl⟩) | (go_at_call 44; refine (push_room own id p most _ l _ (h.dr _) hi).mono ?_; rintro e w' ⟨own1, x1, rfl, hp1⟩))
  go_ret2
  exact ⟨own1, x1.ofDrew, rfl, hp1⟩
theorem var_full (own : Nat → Nat) (id p : Nat) (most : Int) (l : List Int) (w : World) (h : HP own id w p most l) (hi : (l.length : Int) = most) :
    Calls Try.prog 82 #[.pointer (some ⟨p, 0, none⟩)] w (Quiet w (.tuple #[.int .i64 0, .int .i64 4])) := by
  have hl := h.len
  have hi' := Lib.hid hi
  clear hi
  go_enter Try.func82, Try.ntmps82
  go_wp2_with (first | (go_at_call 31; refine (len_any own id p most l _ h).mono ?_; rintro e w' ⟨rfl, n, rfl⟩) | (go_at_call 118; refine (make_ok _ _ _ (by omega) (by omega) (by omega) (by omega)).mono ?_; rintro e w' ⟨rfl, rfl⟩) | (go_at_call 44; refine (push_full own id p most _ l _ (h.dr _) hi'.out).mono ?_; rintro e w' ⟨rfl, n, rfl⟩))
  go_ret2
  exact ⟨rfl, _, rfl⟩
theorem var_any (own : Nat → Nat) (id p : Nat) (most : Int) (l : List Int) (w : World) (h : HP own id w p most l) :
    Calls Try.prog 82 #[.pointer (some ⟨p, 0, none⟩)] w
      (Does own [id] w fun own' e w' => e = .returned (pushV most l) ∧ HP own' id w' p most (pushL most l (l.length * 8))) := by
  have hl := h.len
  by_cases hi : (l.length : Int) < most
  · unfold pushV pushL
    rw [if_pos hi, if_pos hi]
    exact var_room own id p most l w h hi
  · unfold pushV pushL
    rw [if_neg hi, if_neg hi]
    exact (var_full own id p most l w h (by omega)).mono fun e w' hq => hq.does fun n => ⟨rfl, h⟩
theorem var_nil (w : World) : Calls Try.prog 82 #[.pointer none] w (Quiet w (.tuple #[.int .i64 0, .int .i64 1])) := by
  go_enter Try.func82, Try.ntmps82
  go_wp2_with (first | (go_at_call 31; refine (len_nil _).mono ?_; rintro e w' ⟨rfl, n, rfl⟩) | (go_at_call 118; refine (make_ok _ _ _ (by omega) (by omega) (by omega) (by omega)).mono ?_; rintro e w' ⟨rfl, rfl⟩) | (go_at_call 44; refine (push_nil _ _).mono ?_; rintro e w' ⟨rfl, n, rfl⟩))
  go_ret2
  exact ⟨rfl, _, rfl⟩

end Go.Proofs.Ytlmcfclonncgbaa
