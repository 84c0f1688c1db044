/-
  
-/
import Derived.Test.YticgkbpmaakkiaaDkDtoDkEq
import Derived.Test.YticgkbpmaakkiaaOp2toRg3q

namespace Go.Proofs.Yticgkbpmaakkiaa
open Go.RowKit

theorem fresh_see (n i : Int) : (Dsk.fresh n).see i = zeroSec := rfl

set_option maxRecDepth 100000 in
theorem New3_no (w : World) (n : Int) (h : n < 1 ∨ 4096 < n) : Calls Try.prog 3 #[.int .i64 n] w fun e w' => e = .returned (.bool true) ∧ Fr Non w w' := by
  have H := Lib.hid h
  rcases h with h | h
  · go_enter Try.func3, Try.ntmps3
    go_wp2_with (first
      | (go_at_call 11; refine (known_c w).mono ?_; rintro e w1 ⟨rfl, hF1⟩; have HF1 := Lib.hid hF1; clear hF1)
      | (go_at_call 12; refine (New_no w1 n H.out).mono ?_; rintro e w2 ⟨rfl, rfl⟩)
      | fail)
    go_ret
    exact ⟨rfl, HF1.out⟩
  · have h1 : 1 ≤ n := by omega
    go_enter Try.func3, Try.ntmps3
    go_wp2_with (first
      | (go_at_call 11; refine (known_c w).mono ?_; rintro e w1 ⟨rfl, hF1⟩; have HF1 := Lib.hid hF1; clear hF1)
      | (go_at_call 12; refine (New_no w1 n H.out).mono ?_; rintro e w2 ⟨rfl, rfl⟩)
      | fail)
    go_ret
    exact ⟨rfl, HF1.out⟩

set_option maxRecDepth 100000 in
set_option maxHeartbeats 1000000 in
theorem New3_yes (w : World) (n : Int) (h0 : 1 ≤ n) (h1 : n ≤ 4096) : Calls Try.prog 3 #[.int .i64 n] w fun e w' => e = .returned (.bool true) ∧ Fr Non w w' := by
  go_enter Try.func3, Try.ntmps3
  go_wp2_with (first
    | (go_at_call 11; refine (known_c w).mono ?_; rintro e w1 ⟨rfl, hF1⟩; have HF1 := Lib.hid hF1; clear hF1)
    | (go_at_call 12; refine (New_yes w1 n h0 h1).mono ?_; rintro e w2 ⟨rfl, hd2, hF2⟩; have HD2 := Lib.hid hd2; have HF2 := Lib.hid hF2; clear hd2 hF2; generalize w1.heap.size + 1 = p at *; generalize w1.heap.size = m at *)
    | (go_at_call 13; refine (Sectors_c _ _ _ _ _ HD2.out).mono ?_; rintro e w2 ⟨rfl, rfl⟩)
    | (go_at_call 14; refine (Operations_c _ _ _ _ _ HD2.out).mono ?_; rintro e w2 ⟨rfl, rfl⟩)
    | (go_at_call 15; refine (Down_c _ _ _ _ _ HD2.out).mono ?_; rintro e w2 ⟨rfl, rfl⟩)
    | (go_at_call 16; refine (Pending_ok _ _ _ _ _ HD2.out (Nat.zero_le _)).mono ?_; rintro e w3 ⟨v, rfl, ⟨ys, hy, hyl, -, -⟩, hF3⟩; obtain ⟨a, cap, rfl, -, -, -⟩ := Own.shape hy; rw [hyl]; have HF3 := Lib.hid hF3; clear hF3 hy hyl; simp only [Dsk.fresh, List.length_nil])
    | fail)
  have HD3 : Hid (DiskAt w3 p m (.slice none 0 0) (Dsk.fresh n)) := HD2.out.fr HF3.out (fun _ _ h => h)
  go_loopw [5] (fun i wr => ∃ k : Nat, i = .int .i64 k ∧ k ≤ 100 ∧ (k : Int) ≤ n ∧ Fr Non w3 wr) (fun i _ => 100 - (intOf i).toNat)
  case atStart => exact ⟨0, rfl, by omega, by omega, Fr.refl _ _⟩
  case round =>
    obtain ⟨k, rfl, hk, hkn, hF⟩ := hrel
    have HF := Lib.hid hF
    have HDr : Hid (DiskAt wr p m (.slice none 0 0) (Dsk.fresh n)) := HD3.out.fr hF (fun _ _ h => h)
    clear hF
    by_cases hlt : (k : Int) < n ∧ k < 100
    · obtain ⟨hl1, hl2⟩ := hlt
      have hl2' : (k : Int) < 100 := by omega
      have hb1 : ((k : Int) < n) = True := eq_true hl1
      have hhas : (Dsk.fresh n).has k = true := by unfold Dsk.has; exact decide_eq_true ⟨by omega, hl1⟩
      have HH := Lib.hid hhas
      clear hhas
      go_wp2_with (first
        | (go_at_call 17; refine (Read_ok _ _ _ _ _ k HDr.out rfl HH.out (Nat.zero_le _)).mono ?_; rintro e w5 ⟨g, rfl, hg, hgl, hF5⟩; rw [fresh_see] at hg; have HG := Lib.hid hg; have HF5 := Lib.hid hF5; clear hg hF5)
        | fail)
      refine rc (fun w' => BytesAt w' (.slice (some ⟨g, 0, none⟩) 256 256) zeroSec.1) 7 (by kernel_rfl) ?_
      have hS0 : (fun w' : World => BytesAt w' (.slice (some ⟨g, 0, none⟩) 256 256) zeroSec.1) w5.drew := BytesAt.of_block (w := w5.drew) HG.out 256 256 zeroSec.2.symm
      have hS := hS0
      refine tc (i := 0) (v := .int .i64 0) rfl 8 (by kernel_rfl) (fun _ _ _ h => h) rfl (fun w hw => r_move rfl rfl) hS ?_
      simp only [Act.put, List.setIfInBounds_toArray, List.set_cons_zero, List.set_cons_succ]
      refine tc (i := 1) (v := .bool false) rfl 8 (by kernel_rfl) (fun _ _ _ h => h) rfl (fun w hw => by unfold RunV; go_simp) hS ?_
      simp only [Act.put, List.setIfInBounds_toArray, List.set_cons_zero, List.set_cons_succ]
      refine tc (i := 2) (v := .bool false) rfl 8 (by kernel_rfl) (fun _ _ _ h => h) rfl (fun w hw => r_move rfl rfl) hS ?_
      simp only [Act.put, List.setIfInBounds_toArray, List.set_cons_zero, List.set_cons_succ]
      refine tcg (i := 3) (v := .slice (some ⟨g, 0, none⟩) 256 256) rfl 8 (by kernel_rfl) (fun _ _ _ h => h) rfl (fun w hw => r_move rfl rfl) hS ?_
      simp only [Act.put, List.setIfInBounds_toArray, List.set_cons_zero, List.set_cons_succ]
      refine tcg (i := 4) (v := .string (strOf zeroSec.1)) rfl 8 (by kernel_rfl) (fun _ _ _ h => h) rfl (fun w hw => r_convert (u := .slice (some ⟨g, 0, none⟩) 256 256) rfl rfl (run_str Try.underlying30 Try.underlying5 Try.underlying9 hw)) hS ?_
      simp only [Act.put, List.setIfInBounds_toArray, List.set_cons_zero, List.set_cons_succ]
      have hmk := run_make256 w5.drew
      refine og3 (i := 5) rfl (by kernel_rfl) rfl (w' := w5.drew.alloc (.cells (u8s (List.replicate 256 0)).toArray 5)) (hS0.fr ((Fr.refl Non w5.drew).alloc _) (fun _ _ h => h)) (r_makeSlice rfl rfl rfl hmk) ?_
      simp only [Act.put, List.setIfInBounds_toArray, List.set_cons_zero, List.set_cons_succ]
      have hz : (u8s (List.replicate 256 0)) = u8s zeroSec.1 := rfl
      have hS5 : (fun w' : World => BytesAt w' (.slice (some ⟨g, 0, none⟩) 256 256) zeroSec.1) (w5.drew.alloc (.cells (u8s (List.replicate 256 0)).toArray 5)) := hS0.fr ((Fr.refl Non w5.drew).alloc _) (fun _ _ h => h)
      refine og3 (i := 6) (v := .string (strOf zeroSec.1)) rfl (by kernel_rfl) rfl hS5 (r_convert (u := .slice (some ⟨w5.heap.size, 0, none⟩) 256 256) rfl rfl (run_str Try.underlying30 Try.underlying5 Try.underlying9 (BytesAt.of_block (heap_alloc_new w5.drew _) 256 256 (List.length_replicate ..).symm))) ?_
      simp only [Act.put, List.setIfInBounds_toArray, List.set_cons_zero, List.set_cons_succ]
      refine og2 (i := 7) (v := .bool false) rfl (by kernel_rfl) rfl (by kernel_rfl) (r_strNeq_same (l := zeroSec.1) rfl Try.underlying9 rfl rfl) ?_
      simp only [Act.put, List.setIfInBounds_toArray, List.set_cons_zero, List.set_cons_succ]
      refine oc2 (i := 8) (v := .bool false) rfl (by kernel_rfl) rfl (by kernel_rfl) (r_pick rfl rfl rfl) ?_
      simp only [Act.put, List.setIfInBounds_toArray, List.set_cons_zero, List.set_cons_succ]
      refine dc (by kernel_rfl) ?_
      have HFn : Hid (Fr Non w3 (w5.drew.alloc (.cells (u8s (List.replicate 256 0)).toArray 5))) := ((HF.out.trans HF5.out (fun _ _ h => h)).drew).alloc _
      clear hS hS0 hS5 hmk hz
      generalize (w5.drew.alloc (.cells (u8s (List.replicate 256 0)).toArray 5)) = w6 at *
      go_wp2
      go_roundw
      case rel => exact ⟨k + 1, by go_num, by omega, by omega, HFn.out⟩
      case measure => simp [intOf] <;> omega
    · have hno : (Dsk.fresh n).has n = false := by unfold Dsk.has; exact decide_eq_false (by simp [Dsk.fresh])
      have HH := Lib.hid hno
      have HFn : Hid (Fr Non w wr) := ((HF1.out.trans HF2.out (fun _ _ h => h)).trans HF3.out (fun _ _ h => h)).trans HF.out (fun _ _ h => h)
      clear hno
      by_cases hA : (k : Int) < n
      · have hB : (100 : Int) ≤ (k : Int) := by
          have : ¬ k < 100 := fun h => hlt ⟨hA, h⟩
          omega
        have e1 : decide ((k : Int) < n) = true := decide_eq_true hA
        have e2 : decide ((k : Int) < 100) = false := decide_eq_false (by omega)
        clear hlt hA hB hk hkn
        go_wp2_with (first
          | (go_at_call 17; refine (Read_no _ _ _ _ _ n HDr.out rfl HH.out).mono ?_; rintro e w5 ⟨rfl, rfl⟩)
          | fail)
        go_ret
        exact ⟨rfl, HFn.out⟩
      · have e1 : decide ((k : Int) < n) = false := decide_eq_false hA
        clear hlt hA hk hkn
        go_wp2_with (first
          | (go_at_call 17; refine (Read_no _ _ _ _ _ n HDr.out rfl HH.out).mono ?_; rintro e w5 ⟨rfl, rfl⟩)
          | fail)
        go_ret
        exact ⟨rfl, HFn.out⟩

theorem New3_c (w : World) (n : Int) : Calls Try.prog 3 #[.int .i64 n] w fun e w' => e = .returned (.bool true) ∧ Fr Non w w' := by
  by_cases h : n < 1 ∨ 4096 < n
  · exact New3_no w n h
  · exact New3_yes w n (by omega) (by omega)
end Go.Proofs.Yticgkbpmaakkiaa

namespace Go.Proofs.Yticgkbpmaakkiaa
open Go.RowKit

/-! ### the device under a limit -/
structure Lim (n k : Nat) (D : Dsk) : Prop where
  n3 : D.n = 3
  len : D.pend.length ≤ k
  up : k ≤ n → D.down = false ∧ D.limited = true ∧ D.limit = ((n - k : Nat) : Int) ∧ D.ops = (k : Int)
  dn : n < k → D.down = true ∧ D.ops = (n : Int)

theorem Step.of_drew {w w' : World} {p m : Nat} {pv : Value} {D' : Dsk} (h : Step w w' p m pv D') (n : Nat) : Step w (w'.drewN n) p m pv D' := by
  obtain ⟨pv', h1, h2, h3⟩ := h
  exact ⟨pv', h1.drewN n, h2.drewN n, h3⟩

theorem Lim.count {n k : Nat} {D : Dsk} (h : Lim n k D) (hk : k < n) (hn : n < 256) (pend : List (Int × Sec)) (dur : Int → Option Sec) (hp : pend.length ≤ k + 1) :
    Lim n (k + 1) { D.count with pend := pend, dur := dur } := by
  obtain ⟨h1, h2, h3, h4⟩ := h.up (by omega)
  refine ⟨h.n3, hp, fun h5 => ⟨h1, h2, ?_, ?_⟩, fun h5 => by omega⟩
  · show wrap64 (D.limit - 1) = _
    rw [h3]
    have : (((n - k : Nat) : Int) - 1) = ((n - (k + 1) : Nat) : Int) := by omega
    rw [this]; unfold wrap64; omega
  · show wrap64 (D.ops + 1) = _
    rw [h4]; unfold wrap64; omega

theorem Lim.spent {n k : Nat} {D : Dsk} (h : Lim n k D) (hk : k ≤ n) : D.spent = decide (k = n) := by
  obtain ⟨h1, h2, h3, h4⟩ := h.up hk
  unfold Dsk.spent
  rw [h2, h3, Bool.true_and]
  by_cases e : k = n
  · rw [decide_eq_true e]; exact decide_eq_true (by omega)
  · rw [decide_eq_false e]; exact decide_eq_false (by omega)

theorem Lim.crash {n k : Nat} {D : Dsk} (h : Lim n k D) (hk : n ≤ k) : Lim n (k + 1) { D with down := true } := by
  refine ⟨h.n3, Nat.le_succ_of_le h.len, fun h5 => by omega, fun _ => ⟨rfl, ?_⟩⟩
  rcases Nat.lt_or_ge n k with h6 | h6
  · exact (h.dn h6).2
  · have e : k = n := by omega
    subst e
    exact (h.up (Nat.le_refl _)).2.2.2

theorem Flush_lim (w : World) (p m : Nat) (pv : Value) (D : Dsk) (n k : Nat) (r : Int) (hr : (if k < n then 0 else 28) = r) (hn : n < 256) (hk : k ≤ 40) (h : DiskAt w p m pv D) (hL : Lim n k D) :
    Calls Try.prog 19 #[.pointer (some ⟨p, 0, none⟩)] w fun e w' => ∃ D', e = .returned (.int .i64 r) ∧ Step w w' p m pv D' ∧ Lim n (k + 1) D' ∧ (n ≤ k → D'.pend.length = D.pend.length) := by
  subst hr
  have hlen := hL.len
  rcases Nat.lt_trichotomy k n with hc | hc | hc
  · rw [if_pos hc]
    have hs := hL.spent (by omega)
    rw [decide_eq_false (by omega)] at hs
    obtain ⟨h1, -⟩ := hL.up (by omega)
    refine (Flush_ok w p m pv D h h1 hs (by omega)).mono ?_
    rintro e w' ⟨he, hS⟩
    refine ⟨_, he, hS, ?_, fun h => by omega⟩
    obtain ⟨k1, k2, k3, k4, k5, k6⟩ := storeAll_keeps D.pend D.count
    have := hL.count hc hn [] (D.count.storeAll D.pend).dur (Nat.zero_le _)
    exact ⟨k2.trans this.n3, this.len, fun h5 => ⟨k6.trans (this.up h5).1, k4.trans (this.up h5).2.1, k5.trans (this.up h5).2.2.1, k3.trans (this.up h5).2.2.2⟩, fun h5 => ⟨k6.trans (this.dn h5).1, k3.trans (this.dn h5).2⟩⟩
  · subst hc
    rw [if_neg (by omega)]
    have hs := hL.spent (Nat.le_refl _)
    rw [decide_eq_true rfl] at hs
    obtain ⟨h1, -⟩ := hL.up (Nat.le_refl _)
    refine (Flush_spent w p m pv D h h1 hs).mono ?_
    rintro e w' ⟨he, hD, hF⟩
    exact ⟨_, he, Step.of_p hD hF, hL.crash (Nat.le_refl _), fun _ => rfl⟩
  · rw [if_neg (by omega)]
    obtain ⟨h1, h2⟩ := hL.dn hc
    refine (Flush_down w p m pv D h h1).mono ?_
    rintro e w' ⟨he, rfl⟩
    refine ⟨D, he, Step.refl h (Fr.refl _ _), ⟨hL.n3, by omega, fun _ => by omega, fun _ => ⟨h1, h2⟩⟩, fun _ => rfl⟩

theorem Write_lim (w : World) (p m : Nat) (pv : Value) (D : Dsk) (n k : Nat) (r : Int) (hr : (if k < n then 0 else 28) = r) (hn : n < 256) (hk : k ≤ 40) (j : Int) (g cap : Nat) (s : Sec) (h : DiskAt w p m pv D) (hL : Lim n k D) (hj : 0 ≤ j ∧ j < 3)
    (hb : BytesAt w (.slice (some ⟨g, 0, none⟩) 256 cap) s.1) (hsp : g ≠ p ∧ pv.ownBlock ≠ some g) :
    Calls Try.prog 20 #[.pointer (some ⟨p, 0, none⟩), .int .i64 j, .slice (some ⟨g, 0, none⟩) 256 cap] w fun e w' => ∃ D', e = .returned (.int .i64 r) ∧ Step w w' p m pv D' ∧ Lim n (k + 1) D' ∧ (n ≤ k → D'.pend.length = D.pend.length) := by
  subst hr
  have hlen := hL.len
  have hh : D.has j = true := by unfold Dsk.has; rw [hL.n3]; exact decide_eq_true hj
  rcases Nat.lt_trichotomy k n with hc | hc | hc
  · rw [if_pos hc]
    have hs := hL.spent (by omega)
    rw [decide_eq_false (by omega)] at hs
    obtain ⟨h1, -⟩ := hL.up (by omega)
    refine (Write_ok w p m pv D j _ s h h1 hh hs (by omega) hb (fun b e => by cases e; exact hsp)).mono ?_
    rintro e w' ⟨he, hS⟩
    exact ⟨_, he, hS, hL.count hc hn (D.pend ++ [(j, s)]) D.dur (by simp; omega), fun h => by omega⟩
  · subst hc
    rw [if_neg (by omega)]
    have hs := hL.spent (Nat.le_refl _)
    rw [decide_eq_true rfl] at hs
    obtain ⟨h1, -⟩ := hL.up (Nat.le_refl _)
    refine (Write_spent w p m pv D j _ _ h h1 hh hs).mono ?_
    rintro e w' ⟨he, hD, hF⟩
    exact ⟨_, he, Step.of_p hD hF, hL.crash (Nat.le_refl _), fun _ => rfl⟩
  · rw [if_neg (by omega)]
    obtain ⟨h1, h2⟩ := hL.dn hc
    refine (Write_down w p m pv D j _ h h1).mono ?_
    rintro e w' ⟨he, rfl⟩
    refine ⟨D, he, Step.refl h (Fr.refl _ _), ⟨hL.n3, by omega, fun _ => by omega, fun _ => ⟨h1, h2⟩⟩, fun _ => rfl⟩
end Go.Proofs.Yticgkbpmaakkiaa

namespace Go.Proofs.Yticgkbpmaakkiaa
open Go.RowKit

theorem Bytes_at (w : World) (f s : Int) (hf : 0 ≤ f ∧ f < 256) (hs : 0 ≤ s ∧ s < 256) :
    Calls Try.prog 21 #[.int .u8 f, .int .u8 s] w fun e w' => e = .returned (.slice (some ⟨w.heap.size, 0, none⟩) 256 256) ∧ w'.heap[w.heap.size]? = some (.cells (u8s (bytesL (UInt8.ofNat f.toNat) (UInt8.ofNat s.toNat))).toArray 5) ∧ Fr Non w w' := by
  have h1 : f = ((UInt8.ofNat f.toNat).toNat : Int) := by rw [UInt8.toNat_ofNat']; omega
  have h2 : s = ((UInt8.ofNat s.toNat).toNat : Int) := by rw [UInt8.toNat_ofNat']; omega
  have := Bytes_c w (UInt8.ofNat f.toNat) (UInt8.ofNat s.toNat)
  rw [← h1, ← h2] at this
  exact this

/-- What a call of the device's leaves, seen from a world in which the device was not there yet. -/
theorem foot_new {w w4 w5 : World} {p m : Nat} {pv : Value} (hF : Fr Non w w4) (h5 : Fr (Foot p m pv) w4 w5) (hp : w.heap.size ≤ p) (hm : w.heap.size ≤ m) (ho : ∀ b, pv.ownBlock = some b → w.heap.size ≤ b) : Fr Non w w5 :=
  hF.trans h5 (fun i hi e => by
    rcases e with e | e | e
    · exfalso; omega
    · exfalso; omega
    · have := ho i e; exfalso; omega)
theorem own_new {w w4 : World} {pv pv5 : Value} (hF : Fr Non w w4) (ho : ∀ b, pv.ownBlock = some b → w.heap.size ≤ b) (ho5 : ∀ k, pv5.ownBlock = some k → pv.ownBlock = some k ∨ w4.heap.size ≤ k) : ∀ b, pv5.ownBlock = some b → w.heap.size ≤ b := fun b hb => by
  rcases ho5 b hb with h | h
  · exact ho b h
  · exact Nat.le_trans hF.size h

/-- The cells of a slice of bools. -/
def BoolsAt (w : World) (a : Option Addr) (ks : List Bool) : Prop := ks = [] ∨ ∃ b o, a = some ⟨b, o, none⟩ ∧ ∀ (i : Nat) (k : Bool), ks[i]? = some k → w.cell? ⟨b, o + i, none⟩ = some (.bool k)

set_option maxRecDepth 100000 in
theorem Limit_big (w : World) (n : Int) (a : Option Addr) (cap l : Nat) (hl : 40 < l) :
    Calls Try.prog 4 #[.int .u8 n, .slice a l cap] w fun e w' => e = .returned (.bool true) ∧ Fr Non w w' := by
  have h1 : (40 : Int) < (l : Int) := by omega
  go_enter Try.func4, Try.ntmps4
  go_wp2_with (first
    | (go_at_call 11; refine (known_c w).mono ?_; rintro e w1 ⟨rfl, hF1⟩; have HF1 := Lib.hid hF1; clear hF1)
    | (go_at_call 11; refine (known_c w1).mono ?_; rintro e w2 ⟨rfl, hF2⟩; have HF2 := Lib.hid hF2; clear hF2)
    | fail)
  go_ret
  exact ⟨rfl, HF1.out.trans HF2.out (fun _ _ h => h)⟩

set_option maxRecDepth 100000 in
set_option maxHeartbeats 2000000 in
theorem Limit_small (w : World) (n : Nat) (hn : n < 256) (a : Option Addr) (cap : Nat) (ks : List Bool) (hl : ks.length ≤ 40) (hb : BoolsAt w a ks) :
    Calls Try.prog 4 #[.int .u8 n, .slice a ks.length cap] w fun e w' => e = .returned (.bool true) ∧ Fr Non w w' := by
  have h1 : (ks.length : Int) ≤ 40 := by omega
  have h2 : ((n : Int) % 256) = n := by omega
  have HB := Lib.hid hb
  clear hb
  go_enter Try.func4, Try.ntmps4
  go_wp2_with (first
    | (go_at_call 11; refine (known_c w).mono ?_; rintro e w1 ⟨rfl, hF1⟩; have HF1 := Lib.hid hF1; clear hF1)
    | (go_at_call 12; refine (New_yes w1 3 (by omega) (by omega)).mono ?_; rintro e w2 ⟨rfl, hd2, hF2⟩; have HD2 := Lib.hid hd2; have HF2 := Lib.hid hF2; clear hd2 hF2)
    | (go_at_call 18; refine (SetLimit_c _ _ _ _ _ _ HD2.out).mono ?_; rintro e w3 ⟨rfl, hd3, hF3⟩; have HD3 := Lib.hid hd3; have HF3 := Lib.hid hF3; clear hd3 hF3)
    | fail)
  have hF0 : Hid (Fr Non w w3) := (HF1.out.trans HF2.out (fun _ _ h => h)).trans HF3.out (fun i hi e => by have := HF1.out.size; exfalso; omega)
  have hLim : Hid (Lim n 0 ((Dsk.fresh 3).setLimit n)) := ⟨rfl, Nat.le_refl _, fun _ => ⟨rfl, by simp [Dsk.setLimit], by simp [Dsk.setLimit], rfl⟩, fun h => by omega⟩
  have hpB : Hid (w.heap.size ≤ w1.heap.size) := HF1.out.size
  obtain ⟨m, hm⟩ : ∃ m, m = w1.heap.size := ⟨_, rfl⟩
  rw [← hm] at HD3 hpB
  rw [← hm]
  clear hm
  go_loopw [7] (fun i wr => ∃ k : Nat, k ≤ ks.length ∧ i = .int .i64 k ∧ ∃ pv D, DiskAt wr (m + 1) m pv D ∧ Lim n k D ∧ Fr Non w wr ∧ (∀ b, pv.ownBlock = some b → w.heap.size ≤ b)) (fun i _ => ks.length - (intOf i).toNat)
  case atStart => exact ⟨0, Nat.zero_le _, rfl, _, _, HD3.out, hLim.out, hF0.out, fun b h => by cases h⟩
  case round =>
    obtain ⟨k, hk, rfl, pv, D, hD, hL, hF, ho⟩ := hrel
    have HD := Lib.hid hD
    have HL := Lib.hid hL
    have HF := Lib.hid hF
    have HO := Lib.hid ho
    have HLen : Hid (D.pend.length ≤ 100000) := by have := hL.len; show _ ≤ _; omega
    clear hD hL hF ho
    by_cases hlt : k < ks.length
    · obtain ⟨kb, hkb⟩ : ∃ kb, ks[k]? = some kb := ⟨_, List.getElem?_eq_getElem hlt⟩
      have hcell : ∃ b o, a = some ⟨b, o, none⟩ ∧ w.cell? ⟨b, o + k, none⟩ = some (.bool kb) := by
        rcases HB.out with h | ⟨b, o, h, hc⟩
        · rw [h] at hlt; simp at hlt
        · exact ⟨b, o, h, hc k kb hkb⟩
      obtain ⟨b, o, rfl, hc0⟩ := hcell
      have hkm : ((k : Int) % 256) = k := by omega
      have htm : ((k : Int).tmod 3) = (k : Int) % 3 := Int.tmod_eq_emod_of_nonneg (by omega)
      have HC0 := Lib.hid hc0
      clear hkb hc0
      by_cases hc : k < n
      · have hci : (k : Int) < (n : Int) := by omega
        cases kb
        · go_wp2_with (first
            | (go_at_call 16; refine (Pending_ok _ _ _ _ _ HD.out HLen.out).mono ?_; rintro e w4 ⟨v, rfl, ⟨ys, hy, hyl, -, -⟩, hF4⟩; obtain ⟨a4, cap4, rfl, -, -, -⟩ := Own.shape hy; rw [hyl]; have hc4 := (HF.out.trans hF4 (fun _ _ h => h)).cell HC0.out (fun h => h); have HF4 := Lib.hid hF4; have HD4 := Lib.hid (HD.out.fr hF4 (fun _ _ h => h)); clear hF4 hy hyl)
            | (go_at_call 21; refine (Bytes_at w4 k 1 (by omega) (by omega)).mono ?_; rintro e wb ⟨rfl, hgb, hFb⟩; have HGB := Lib.hid hgb; have HFb := Lib.hid hFb; have HDB := Lib.hid (HD4.out.fr hFb (fun _ _ h => h)); clear hgb hFb)
            | (go_at_call 20; refine (Write_lim _ _ _ _ _ n k 0 (if_pos hc) hn (by omega) _ _ _ ⟨_, bytesL_length _ _⟩ HDB.out HL.out (by omega) (BytesAt.of_block HGB.out 256 256 (bytesL_length _ _).symm) ⟨by have := HD4.out.plt; omega, fun h => by have := (HD4.out.vlt h).1; omega⟩).mono ?_; rintro e w5 ⟨D5, rfl, ⟨pv5, hd5, hF5, ho5⟩, hL5, hP5⟩; obtain ⟨u1, u2, u3, u4⟩ := hL5.up (by omega); have HD5 := Lib.hid hd5; have HF5 := Lib.hid hF5; have HO5 := Lib.hid ho5; have HL5 := Lib.hid hL5; clear hd5 hF5 ho5 hL5 hP5; have HB5 := Lib.hid (HF4.out.trans HFb.out (fun _ _ h => h)))
            | (go_at_call 15; refine (Down_c _ _ _ _ _ HD5.out).mono ?_; rintro e w6 ⟨rfl, rfl⟩; rw [u1])
            | (go_at_call 14; refine (Operations_c _ _ _ _ _ HD5.out).mono ?_; rintro e w6 ⟨rfl, rfl⟩; rw [u4])
            | fail)
          go_roundw
          case rel =>
            have e5 := foot_new (HF.out.trans HB5.out (fun _ _ h => h)) HF5.out (Nat.le_succ_of_le hpB.out) hpB.out HO.out
            have o5 := own_new (HF.out.trans HB5.out (fun _ _ h => h)) HO.out HO5.out
            exact ⟨k + 1, by omega, by go_num, _, _, HD5.out, HL5.out, e5, o5⟩
          case measure => simp [intOf] <;> omega
        · go_wp2_with (first
            | (go_at_call 16; refine (Pending_ok _ _ _ _ _ HD.out HLen.out).mono ?_; rintro e w4 ⟨v, rfl, ⟨ys, hy, hyl, -, -⟩, hF4⟩; obtain ⟨a4, cap4, rfl, -, -, -⟩ := Own.shape hy; rw [hyl]; have hc4 := (HF.out.trans hF4 (fun _ _ h => h)).cell HC0.out (fun h => h); have HF4 := Lib.hid hF4; have HD4 := Lib.hid (HD.out.fr hF4 (fun _ _ h => h)); clear hF4 hy hyl)
            | (go_at_call 19; refine (Flush_lim _ _ _ _ _ n k 0 (if_pos hc) hn (by omega) HD4.out HL.out).mono ?_; rintro e w5 ⟨D5, rfl, ⟨pv5, hd5, hF5, ho5⟩, hL5, hP5⟩; obtain ⟨u1, u2, u3, u4⟩ := hL5.up (by omega); have HD5 := Lib.hid hd5; have HF5 := Lib.hid hF5; have HO5 := Lib.hid ho5; have HL5 := Lib.hid hL5; clear hd5 hF5 ho5 hL5 hP5; have HB5 := Lib.hid HF4.out; have HDB := Lib.hid HD4.out)
            | (go_at_call 15; refine (Down_c _ _ _ _ _ HD5.out).mono ?_; rintro e w6 ⟨rfl, rfl⟩; rw [u1])
            | (go_at_call 14; refine (Operations_c _ _ _ _ _ HD5.out).mono ?_; rintro e w6 ⟨rfl, rfl⟩; rw [u4])
            | fail)
          go_roundw
          case rel =>
            have e5 := foot_new (HF.out.trans HB5.out (fun _ _ h => h)) HF5.out (Nat.le_succ_of_le hpB.out) hpB.out HO.out
            have o5 := own_new (HF.out.trans HB5.out (fun _ _ h => h)) HO.out HO5.out
            exact ⟨k + 1, by omega, by go_num, _, _, HD5.out, HL5.out, e5, o5⟩
          case measure => simp [intOf] <;> omega
      · have hci : (n : Int) ≤ (k : Int) := by omega
        cases kb
        · go_wp2_with (first
            | (go_at_call 16; refine (Pending_ok _ _ _ _ _ HD.out HLen.out).mono ?_; rintro e w4 ⟨v, rfl, ⟨ys, hy, hyl, -, -⟩, hF4⟩; obtain ⟨a4, cap4, rfl, -, -, -⟩ := Own.shape hy; rw [hyl]; have hc4 := (HF.out.trans hF4 (fun _ _ h => h)).cell HC0.out (fun h => h); have HF4 := Lib.hid hF4; have HD4 := Lib.hid (HD.out.fr hF4 (fun _ _ h => h)); clear hF4 hy hyl)
            | (go_at_call 21; refine (Bytes_at w4 k 1 (by omega) (by omega)).mono ?_; rintro e wb ⟨rfl, hgb, hFb⟩; have HGB := Lib.hid hgb; have HFb := Lib.hid hFb; have HDB := Lib.hid (HD4.out.fr hFb (fun _ _ h => h)); clear hgb hFb)
            | (go_at_call 20; refine (Write_lim _ _ _ _ _ n k 28 (if_neg hc) hn (by omega) _ _ _ ⟨_, bytesL_length _ _⟩ HDB.out HL.out (by omega) (BytesAt.of_block HGB.out 256 256 (bytesL_length _ _).symm) ⟨by have := HD4.out.plt; omega, fun h => by have := (HD4.out.vlt h).1; omega⟩).mono ?_; rintro e w5 ⟨D5, rfl, ⟨pv5, hd5, hF5, ho5⟩, hL5, hP5⟩; obtain ⟨u1, u4⟩ := hL5.dn (by omega); have hP := hP5 (by omega); have HD5 := Lib.hid hd5; have HF5 := Lib.hid hF5; have HO5 := Lib.hid ho5; have HL5 := Lib.hid hL5; clear hd5 hF5 ho5 hL5 hP5; have HB5 := Lib.hid (HF4.out.trans HFb.out (fun _ _ h => h)))
            | (go_at_call 15; refine (Down_c _ _ _ _ _ HD5.out).mono ?_; rintro e w6 ⟨rfl, rfl⟩; rw [u1])
            | (go_at_call 16; refine (Pending_ok _ _ _ _ _ HD5.out (by rw [hP]; exact HLen.out)).mono ?_; rintro e w7 ⟨v, rfl, ⟨ys, hy, hyl, -, -⟩, hF7⟩; obtain ⟨a7, cap7, rfl, -, -, -⟩ := Own.shape hy; rw [hyl, hP]; have HF7 := Lib.hid hF7; clear hF7 hy hyl)
            | fail)
          go_roundw
          case rel =>
            have e5 := foot_new (HF.out.trans HB5.out (fun _ _ h => h)) HF5.out (Nat.le_succ_of_le hpB.out) hpB.out HO.out
            have o5 := own_new (HF.out.trans HB5.out (fun _ _ h => h)) HO.out HO5.out
            exact ⟨k + 1, by omega, by go_num, _, _, HD5.out.fr HF7.out (fun _ _ h => h), HL5.out, e5.trans HF7.out (fun _ _ h => h), o5⟩
          case measure => simp [intOf] <;> omega
        · go_wp2_with (first
            | (go_at_call 16; refine (Pending_ok _ _ _ _ _ HD.out HLen.out).mono ?_; rintro e w4 ⟨v, rfl, ⟨ys, hy, hyl, -, -⟩, hF4⟩; obtain ⟨a4, cap4, rfl, -, -, -⟩ := Own.shape hy; rw [hyl]; have hc4 := (HF.out.trans hF4 (fun _ _ h => h)).cell HC0.out (fun h => h); have HF4 := Lib.hid hF4; have HD4 := Lib.hid (HD.out.fr hF4 (fun _ _ h => h)); clear hF4 hy hyl)
            | (go_at_call 19; refine (Flush_lim _ _ _ _ _ n k 28 (if_neg hc) hn (by omega) HD4.out HL.out).mono ?_; rintro e w5 ⟨D5, rfl, ⟨pv5, hd5, hF5, ho5⟩, hL5, hP5⟩; obtain ⟨u1, u4⟩ := hL5.dn (by omega); have hP := hP5 (by omega); have HD5 := Lib.hid hd5; have HF5 := Lib.hid hF5; have HO5 := Lib.hid ho5; have HL5 := Lib.hid hL5; clear hd5 hF5 ho5 hL5 hP5; have HB5 := Lib.hid HF4.out; have HDB := Lib.hid HD4.out)
            | (go_at_call 15; refine (Down_c _ _ _ _ _ HD5.out).mono ?_; rintro e w6 ⟨rfl, rfl⟩; rw [u1])
            | (go_at_call 16; refine (Pending_ok _ _ _ _ _ HD5.out (by rw [hP]; exact HLen.out)).mono ?_; rintro e w7 ⟨v, rfl, ⟨ys, hy, hyl, -, -⟩, hF7⟩; obtain ⟨a7, cap7, rfl, -, -, -⟩ := Own.shape hy; rw [hyl, hP]; have HF7 := Lib.hid hF7; clear hF7 hy hyl)
            | fail)
          go_roundw
          case rel =>
            have e5 := foot_new (HF.out.trans HB5.out (fun _ _ h => h)) HF5.out (Nat.le_succ_of_le hpB.out) hpB.out HO.out
            have o5 := own_new (HF.out.trans HB5.out (fun _ _ h => h)) HO.out HO5.out
            exact ⟨k + 1, by omega, by go_num, _, _, HD5.out.fr HF7.out (fun _ _ h => h), HL5.out, e5.trans HF7.out (fun _ _ h => h), o5⟩
          case measure => simp [intOf] <;> omega
    · have hkl : k = ks.length := by omega
      subst hkl
      clear hlt hk
      rcases Nat.lt_or_ge n ks.length with hc | hc
      · have hci : (n : Int) < (ks.length : Int) := by omega
        obtain ⟨u1, u4⟩ := HL.out.dn hc
        go_wp2_with (first
          | (go_at_call 14; refine (Operations_c _ _ _ _ _ HD.out).mono ?_; rintro e w6 ⟨rfl, rfl⟩; rw [u4])
          | fail)
        go_ret
        exact ⟨rfl, HF.out⟩
      · have hci : (ks.length : Int) ≤ (n : Int) := by omega
        obtain ⟨u1, u2, u3, u4⟩ := HL.out.up hc
        clear u2 u3
        go_wp2_with (first
          | (go_at_call 14; refine (Operations_c _ _ _ _ _ HD.out).mono ?_; rintro e w6 ⟨rfl, rfl⟩; rw [u4])
          | fail)
        go_ret
        exact ⟨rfl, HF.out⟩
end Go.Proofs.Yticgkbpmaakkiaa
