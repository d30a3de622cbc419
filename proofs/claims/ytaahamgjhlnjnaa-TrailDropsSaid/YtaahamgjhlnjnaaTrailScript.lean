/- The law TrailDrops' own closure: a script's Sets, the first twenty. -/
import Derived.Test.YtaahamgjhlnjnaaTrailGo
namespace Go.Proofs.Ytaahamgjhlnjnaa
open Go.RowKit
set_option linter.unusedVariables false

set_option maxHeartbeats 3200000 in
set_option maxRecDepth 100000 in
theorem script_any (own : Nat → Nat) (idh idt ph pt bh bt : Nat) (most : Int) (l : List Int) (L : List (Int × Int)) (w : World) (h : HP own idh w ph most l) (ht : TP own idt w pt L) (hid : idh ≠ idt) (hid9 : idh ≠ 9 ∧ idt ≠ 9) (hid0 : idh ≠ 0 ∧ idt ≠ 0) (hL : L.length < 1000000)
    (hbt : Blk own 9 w bt [.pointer (some ⟨pt, 0, none⟩)] 74) (hbh : Blk own 9 w bh [.pointer (some ⟨ph, 0, none⟩)] 64)
    (A : Option Addr) (len cap : Nat) (xs : List GCall) (w0 : World) (hc : Came RCall 3 w0 A len cap xs) (hw : Below w0.heap.size w0 w) (h0 : ∀ b, b < w0.heap.size → own b = 0) :
    Calls Try.prog 66 #[.slice A len cap, .pointer (some ⟨bt, 0, none⟩), .pointer (some ⟨bh, 0, none⟩)] w
      (Does own [idh, idt] w fun own' e w' => e = .returned (.tuple #[]) ∧ HP own' idh w' ph most (tgo (l, L) (xs.take 20)).1 ∧ TP own' idt w' pt (tgo (l, L) (xs.take 20)).2) := by
  have hmax := hc.max
  have hle := hc.le
  unfold maxLen at hmax
  have hlen := hc.length
  have HLN := Lib.hid hlen
  clear hlen
  have hws := hw.size
  have hb0 := fun (own' : Nat → Nat) (wr : World) (x : Ext own own' [idh, idt] w wr) => hw.trans (x.came hws h0 (by simp; omega))
  have HB := Lib.hid hb0
  have hl20 : (xs.take 20).length ≤ 20 := by rw [List.length_take]; omega
  have hT := fun j => tgo_length ((xs.take 20).take j) (l, L)
  have h1000 : ∀ j, (tgo (l, L) ((xs.take 20).take j)).2.length < 1000000000 := fun j => by
    have h1 := (hT j).2.2
    have h2 : ((xs.take 20).take j).length ≤ 20 := Nat.le_trans (List.length_take_le' _ _) hl20
    have h3 : (l, L).2.length = L.length := rfl
    omega
  have H1000 := Lib.hid h1000
  have hn9 : (9 : Nat) ∉ [idh, idt] := by simp; omega
  have H9 := Lib.hid hn9
  clear hb0 hl20 hT h1000 hn9
  go_enter Try.func66, Try.ntmps66
  go_wp2_with fail
  go_loopw [8] (fun v wr => ∃ (k : Nat) (own' : Nat → Nat), v = .int .i64 k ∧ k ≤ len ∧ Ext own own' [idh, idt] w wr ∧ HP own' idh wr ph most (tgo (l, L) ((xs.take 20).take k)).1 ∧ TP own' idt wr pt (tgo (l, L) ((xs.take 20).take k)).2) (fun v _ => len - (intOf v).toNat)
  case atStart => exact ⟨0, own, rfl, by omega, Ext.refl _ _ _, h, ht⟩
  case round =>
    obtain ⟨k, own', rfl, hk, x, a, b⟩ := hrel
    clear h ht
    by_cases hlt : k < len
    · obtain ⟨bb, o, rfl⟩ := hc.addr (by omega)
      obtain ⟨y, hy, e0, e1, e2, r0, r1, r2⟩ := hc.call (HB.out _ _ x) k hlt
      by_cases h20 : k < 20
      · have h20' : ((k : Int) < 20) := by omega
        have hn := tgo_succ (l, L) (xs.take 20) k y (by rw [List.getElem?_take_of_lt h20]; exact hy)
        have HN := Lib.hid hn
        have h9 := H1000.out k
        clear hn hy
        generalize tgo (l, L) ((xs.take 20).take k) = s at *
        obtain ⟨l1, L1⟩ := s
        obtain ⟨xb, hbx, xb0⟩ := x.box [.int .i64 y.dom, .int .i64 y.at_, .int .u64 y.c] 85 9
        have ab := a.keep xb0 (by simp)
        have bb := b.keep xb0 (by simp)
        have ht1 := (hbt.keep x H9.out).keep xb0 (by simp)
        have hh1 := (hbh.keep x H9.out).keep xb0 (by simp)
        have f0 := ht1.cell 0 rfl
        have f1 := hh1.cell 0 rfl
        clear xb0 a b x
        generalize _root_.Go.Proofs.Ytaahamgjhlnjnaa.give own' wr.heap.size 9 = ob at *
        go_wp2_with fail
        refine (tset_any ob idh idt ph pt most y.at_ y.c l1 L1 _ ab bb hid h9).mono ?_
        rintro e w3 ⟨own3, x3, rfl, a3, b3⟩
        go_wp2_with fail
        go_roundw
        case rel => exact ⟨k + 1, own3, by go_num, by omega, xb.trans x3, by rw [HN.out]; exact a3, by rw [HN.out]; exact b3⟩
        case measure => simp [intOf]; omega
      · have h20' : ((20 : Int) ≤ k) := by omega
        have hn : (xs.take 20).take k = (xs.take 20).take (k + 1) := by
          rw [take_stay _ _ _ (by omega), take_stay _ _ _ (by omega)]
        rw [hn] at a b
        go_wp2_with fail
        go_roundw
        case rel => exact ⟨k + 1, own', by go_num, by omega, x.alloc _, HP.alloc a _, b.alloc _⟩
        case measure => simp [intOf]; omega
    · go_wp2_with fail
      go_end0
      refine ⟨own', x, rfl, ?_⟩
      have e1 : (xs.take 20).take k = xs.take 20 := List.take_of_length_le (by rw [List.length_take, HLN.out]; omega)
      rw [← e1]; exact ⟨a, b⟩

end Go.Proofs.Ytaahamgjhlnjnaa
