/- The reference's getter: its names, a heap's functors. -/
import Derived.Test.YtlmcfclonncgbaaGet
import Derived.Test.YtlmcfclonncgbaaRAtoms
import Derived.Test.YtlmcfclonncgbaaRDeref
import Derived.BigQuiet
import Derived.Deep.QuietTactic
namespace Go.Proofs.Ytlmcfclonncgbaa
open Go.RowKit
set_option linter.unusedVariables false
set_option linter.unusedSimpArgs false

theorem quiet_gen2 {P : Program} {f : FuncId} {args : Array Value} {X : World} {F : Nat → World} {v : Value} (h : Calls P f args X (Quiet X v)) (hx : ∀ n, ∃ m, X.drewN n = F m) :
    Calls P f args X (fun e w' => e = .returned v ∧ ∃ n, w' = F n) := by
  refine h.mono ?_
  rintro e w' ⟨rfl, n, rfl⟩
  exact ⟨rfl, hx n⟩
theorem and255 {x : Int} (h0 : 0 ≤ x) (h1 : x < 18446744073709551616) : bits .and .u64 x 255 = x % 256 := by
  have hb : (BitVec.ofInt 64 x &&& BitVec.ofInt 64 255).toNat = (x % ((18446744073709551616 : Nat) : Int)).toNat % 256 := by
    rw [BitVec.toNat_and, BitVec.toNat_ofInt]
    exact Nat.and_two_pow_sub_one_eq_mod _ 8
  show IntKind.u64.wrap ((BitVec.ofInt 64 x &&& BitVec.ofInt 64 255).toNat : Nat) = _
  rw [hb, wrap_u64]
  omega
def GB (own : Nat → Nat) (id : Nat) (w : World) (g ph pa pm : Nat) (n e : Int) : Prop := Blk own id w g [.pointer (some ⟨ph, 0, none⟩), .pointer (some ⟨pa, 0, none⟩), .map (some pm), .int .i64 n, .int .i64 e] 145
theorem rname_in (own : Nat → Nat) (idg ida : Nat) (w : World) (g ph pa pm : Nat) (k er n : Int) (L : List ByteArray) (hb : GB own idg w g ph pa pm k er) (ha : RAP own ida w pa L) (h0 : 0 ≤ n) (hn : n < L.length) (hL : L.length ≤ 4096) :
    Calls Try.prog 135 #[.pointer (some ⟨g, 0, none⟩), .int .u64 n] w (Quiet w (.string (L.getD n.toNat ByteArray.empty))) := by
  obtain ⟨N, rfl⟩ : ∃ N : Nat, n = N := ⟨n.toNat, by omega⟩
  have c1 := Blk.cell hb 1 rfl
  obtain ⟨v, kb, kr, _⟩ := ha
  have d0 := kb.cell 0 rfl
  obtain ⟨gs, cp, rfl, _⟩ := kr.form_pos (by omega)
  have hN : N < L.length := by omega
  have r0 := kr.cell N (u := .string (L.getD N ByteArray.empty)) (by unfold strs; simp [List.getD, List.getElem?_eq_getElem hN])
  have hwl : IntKind.u64.wrap (L.length : Int) = L.length := by rw [wrap_u64]; omega
  have hlt : decide ((L.length : Int) ≤ (N : Int)) = false := decide_eq_false (by omega)
  rw [show ((N : Int)).toNat = N by omega]
  generalize L.getD N ByteArray.empty = s at *
  clear kb kr hb
  go_enter Try.func135, Try.ntmps135
  go_wp2_with fail
  go_ret
  exact ⟨rfl, 0, rfl⟩
theorem rname_out (own : Nat → Nat) (idg ida : Nat) (w : World) (g ph pa pm : Nat) (k er n : Int) (L : List ByteArray) (hb : GB own idg w g ph pa pm k er) (ha : RAP own ida w pa L) (hn : (L.length : Int) ≤ n) (hn1 : n < 18446744073709551616) (hL : L.length ≤ 4096) :
    Calls Try.prog 135 #[.pointer (some ⟨g, 0, none⟩), .int .u64 n] w (Does own [idg] w fun own' e w' => e = .returned (.string ByteArray.empty) ∧ GB own' idg w' g ph pa pm k 2) := by
  have c1 := Blk.cell hb 1 rfl
  have c4 := Blk.cell hb 4 rfl
  have f4 := Blk.free hb 4
  obtain ⟨v, kb, kr, _⟩ := ha
  have d0 := kb.cell 0 rfl
  obtain ⟨A, cp, rfl, _⟩ := kr.form
  have hwl : IntKind.u64.wrap (L.length : Int) = L.length := by rw [wrap_u64]; omega
  have hlt : decide ((L.length : Int) ≤ n) = true := decide_eq_true hn
  have hx : Ext own own [idg] w (w.setCell ⟨g, 4, none⟩ (.int .i64 2)) := (Ext.refl own [idg] w).setCell _ _ (fun _ => by show own g ∈ _; rw [hb.2]; simp)
  have hb2 : GB own idg (w.setCell ⟨g, 4, none⟩ (.int .i64 2)) g ph pa pm k 2 := Blk.set hb 4 (.int .i64 2)
  clear kb kr hb
  go_enter Try.func135, Try.ntmps135
  go_wp2_with fail
  go_ret
  exact ⟨own, hx, rfl, hb2⟩
/-- A compound's functor and its arguments are there. -/
def funOk (l : List Int) (v : Nat) : Bool := decide (v < l.length) && decide (l.getD v 0 % 8 = 6) && decide (1 ≤ l.getD v 0 / 8 % 256) && decide (l.getD v 0 / 8 % 256 ≤ 20) && decide (v + (l.getD v 0 / 8 % 256).toNat < l.length)
def funV (l : List Int) (v : Nat) : Value := if funOk l v then .tuple #[.int .i64 (l.getD v 0 / 8 / 256), .int .i64 (l.getD v 0 / 8 % 256), .bool true] else .tuple #[.int .i64 0, .int .i64 0, .bool false]
theorem funV_no {l : List Int} {v : Nat} (h : funOk l v = false) : funV l v = .tuple #[.int .i64 0, .int .i64 0, .bool false] := by unfold funV; rw [h]; rfl
theorem rfun_any (own : Nat → Nat) (id p : Nat) (most : Int) (l : List Int) (w : World) (h : RH own id w p most l) (D : Int) (hD0 : 0 ≤ D) (hD1 : D < 18446744073709551616) (hl0 : ∀ x ∈ l, 0 ≤ x ∧ x < 18446744073709551616) :
    Calls Try.prog 138 #[.pointer (some ⟨p, 0, none⟩), .int .u64 D] w (Quiet w (funV l (D / 8).toNat)) := by
  have hll := h.len
  obtain ⟨V, hV⟩ : ∃ V : Nat, D / 8 = V := ⟨(D / 8).toNat, by omega⟩
  have hva : ∀ w, Calls Try.prog 132 #[.int .u64 D] w fun e w' => e = .returned (.int .u64 (V : Int)) ∧ w' = w := fun w => by rw [← hV]; exact rvalue_any D w
  rw [hV, show ((V : Int)).toNat = V by omega]
  have hh := h
  by_cases h1 : V < l.length
  · have hin := rin_true own id p most (V : Int) l w (by omega) hh
    obtain ⟨v, kb, kr, _⟩ := h
    have d0 := kb.cell 0 rfl
    obtain ⟨gs, cp, rfl, _⟩ := kr.form_pos (by omega)
    obtain ⟨y, hy⟩ : ∃ y, l.getD V 0 = y := ⟨_, rfl⟩
    have hg : l[V]? = some y := by rw [← hy]; simp [List.getD, List.getElem?_eq_getElem h1]
    have r0 := kr.cell V (u := .int .u64 y) (by unfold words; simp [hg])
    have hyr := hl0 y (List.mem_of_getElem? hg)
    have HVA := Lib.hid hva
    have HIN := Lib.hid hin
    by_cases h6 : y % 8 = 6
    · have htg : ((y % 8 : Int) != 6) = false := by simpa using h6
      obtain ⟨B, hB⟩ : ∃ B, y / 8 = B := ⟨_, rfl⟩
      have hvy : ∀ w, Calls Try.prog 132 #[.int .u64 y] w fun e w' => e = .returned (.int .u64 B) ∧ w' = w := fun w => by rw [← hB]; exact rvalue_any y w
      have hBr : 0 ≤ B ∧ B < 2305843009213693952 := by omega
      have ha := and255 (x := B) (by omega) (by omega)
      obtain ⟨N, hN⟩ : ∃ N : Nat, B % 256 = N := ⟨(B % 256).toNat, by omega⟩
      rw [hN] at ha
      have hs : IntKind.i64.wrap (B / 256) = B / 256 := by rw [IntKind.wrap_i64]; omega
      have hwN : IntKind.u64.wrap (N : Int) = N := by rw [wrap_u64]; omega
      have hwV : IntKind.u64.wrap ((V : Int) + (N : Int)) = (V : Int) + N := by rw [wrap_u64]; omega
      have HVY := Lib.hid hvy
      by_cases n1 : N < 1
      · have hno : funOk l V = false := by unfold funOk; rw [hy, hB, hN, show decide (1 ≤ (N : Int)) = false from decide_eq_false (by omega)]; simp
        rw [funV_no hno]
        have hd1 : decide ((N : Int) < 1) = true := decide_eq_true (by omega)
        clear hva hin kb kr hh hg hy hyr h6 hBr hvy hno n1
        go_enter Try.func138, Try.ntmps138
        go_wp2_with (first
          | (go_at_call 132; refine (HVA.out _).mono ?_; rintro e w' ⟨rfl, hw'⟩; rw [hw']; clear hw')
          | (go_at_call 134; refine HIN.out.mono ?_; rintro e w' ⟨rfl, hw'⟩; rw [hw']; clear hw')
          | (go_at_call 133; refine (rtag_any y _).mono ?_; rintro e w' ⟨rfl, hw'⟩; rw [hw']; clear hw'))
        go_quiet ((go_at_call 132; exact Calls.quiet_of_same (HVY.out _)))
        go_wp2_with fail
        go_ret3
        exact ⟨rfl, _, rfl⟩
      · have hd1 : decide ((N : Int) < 1) = false := decide_eq_false (by omega)
        by_cases n2 : 20 < N
        · have hno : funOk l V = false := by unfold funOk; rw [hy, hB, hN, show decide ((N : Int) ≤ 20) = false from decide_eq_false (by omega)]; simp
          rw [funV_no hno]
          have hd2 : decide ((20 : Int) < (N : Int)) = true := decide_eq_true (by omega)
          clear hva hin kb kr hh hg hy hyr h6 hBr hvy hno n1 n2
          go_enter Try.func138, Try.ntmps138
          go_wp2_with (first
            | (go_at_call 132; refine (HVA.out _).mono ?_; rintro e w' ⟨rfl, hw'⟩; rw [hw']; clear hw')
            | (go_at_call 134; refine HIN.out.mono ?_; rintro e w' ⟨rfl, hw'⟩; rw [hw']; clear hw')
            | (go_at_call 133; refine (rtag_any y _).mono ?_; rintro e w' ⟨rfl, hw'⟩; rw [hw']; clear hw'))
          go_quiet ((go_at_call 132; exact Calls.quiet_of_same (HVY.out _)))
          go_wp2_with fail
          go_ret3
          exact ⟨rfl, _, rfl⟩
        · have hd2 : decide ((20 : Int) < (N : Int)) = false := decide_eq_false (by omega)
          by_cases n3 : V + N < l.length
          · have hin2 : ∀ n, Calls Try.prog 134 #[.pointer (some ⟨p, 0, none⟩), .int .u64 ((V : Int) + (N : Int))] (w.drewN n) fun e w' => e = .returned (.bool true) ∧ w' = w.drewN n := fun n => rin_true own id p most _ l _ (by omega) (hh.dr n)
            have hok : funV l V = .tuple #[.int .i64 (B / 256), .int .i64 N, .bool true] := by
              unfold funV
              rw [show funOk l V = true from by unfold funOk; simp only [hy, hB, hN, Bool.and_eq_true, decide_eq_true_eq]; exact ⟨⟨⟨⟨h1, h6⟩, by omega⟩, by omega⟩, by omega⟩, if_pos rfl, hy, hB, hN]
            rw [hok]
            have HIN2 := Lib.hid hin2
            clear hva hin hin2 kb kr hh hg hy hyr h6 hBr hvy hok n1 n2 n3
            go_enter Try.func138, Try.ntmps138
            go_wp2_with (first
              | (go_at_call 132; refine (HVA.out _).mono ?_; rintro e w' ⟨rfl, hw'⟩; rw [hw']; clear hw')
              | (go_at_call 134; refine HIN.out.mono ?_; rintro e w' ⟨rfl, hw'⟩; rw [hw']; clear hw')
              | (go_at_call 133; refine (rtag_any y _).mono ?_; rintro e w' ⟨rfl, hw'⟩; rw [hw']; clear hw'))
            go_quiet ((go_at_call 132; exact Calls.quiet_of_same (HVY.out _)))
            go_wp2_with (go_at_call 134; refine (HIN2.out _).mono ?_; rintro e w' ⟨rfl, hw'⟩; rw [hw']; clear hw')
            go_ret3
            exact ⟨rfl, _, rfl⟩
          · have hin2 : ∀ n, Calls Try.prog 134 #[.pointer (some ⟨p, 0, none⟩), .int .u64 ((V : Int) + (N : Int))] (w.drewN n) fun e w' => e = .returned (.bool false) ∧ w' = w.drewN n := fun n => rin_false own id p most _ l _ (by omega) (hh.dr n)
            have hno : funOk l V = false := by unfold funOk; rw [hy, hB, hN, show decide (V + ((N : Int)).toNat < l.length) = false from decide_eq_false (by omega)]; simp
            rw [funV_no hno]
            have HIN2 := Lib.hid hin2
            clear hva hin hin2 kb kr hh hg hy hyr h6 hBr hvy hno n1 n2 n3
            go_enter Try.func138, Try.ntmps138
            go_wp2_with (first
              | (go_at_call 132; refine (HVA.out _).mono ?_; rintro e w' ⟨rfl, hw'⟩; rw [hw']; clear hw')
              | (go_at_call 134; refine HIN.out.mono ?_; rintro e w' ⟨rfl, hw'⟩; rw [hw']; clear hw')
              | (go_at_call 133; refine (rtag_any y _).mono ?_; rintro e w' ⟨rfl, hw'⟩; rw [hw']; clear hw'))
            go_quiet ((go_at_call 132; exact Calls.quiet_of_same (HVY.out _)))
            go_wp2_with (go_at_call 134; refine (HIN2.out _).mono ?_; rintro e w' ⟨rfl, hw'⟩; rw [hw']; clear hw')
            go_ret3
            exact ⟨rfl, _, rfl⟩
    · have htg : ((y % 8 : Int) != 6) = true := by simpa using h6
      have hno : funOk l V = false := by unfold funOk; rw [hy, show decide (y % 8 = 6) = false from decide_eq_false h6]; simp
      rw [funV_no hno]
      clear hva hin kb kr hh hg hy hyr h6 hno
      go_enter Try.func138, Try.ntmps138
      go_wp2_with (first
        | (go_at_call 132; refine (HVA.out _).mono ?_; rintro e w' ⟨rfl, hw'⟩; rw [hw']; clear hw')
        | (go_at_call 134; refine HIN.out.mono ?_; rintro e w' ⟨rfl, hw'⟩; rw [hw']; clear hw')
        | (go_at_call 133; refine (rtag_any y _).mono ?_; rintro e w' ⟨rfl, hw'⟩; rw [hw']; clear hw'))
      go_ret3
      exact ⟨rfl, 0, rfl⟩
  · have hin := rin_false own id p most (V : Int) l w (by omega) hh
    have hno : funOk l V = false := by unfold funOk; rw [show decide (V < l.length) = false from decide_eq_false h1]; rfl
    rw [funV_no hno]
    have HVA := Lib.hid hva
    have HIN := Lib.hid hin
    clear hva hin h hh hno
    go_enter Try.func138, Try.ntmps138
    go_wp2_with (first
      | (go_at_call 132; refine (HVA.out _).mono ?_; rintro e w' ⟨rfl, hw'⟩; rw [hw']; clear hw')
      | (go_at_call 134; refine HIN.out.mono ?_; rintro e w' ⟨rfl, hw'⟩; rw [hw']; clear hw'))
    go_ret3
    exact ⟨rfl, 0, rfl⟩

end Go.Proofs.Ytlmcfclonncgbaa
