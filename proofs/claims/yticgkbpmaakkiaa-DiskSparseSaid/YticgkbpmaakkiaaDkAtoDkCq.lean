/-
  
-/
import Derived.Test.YticgkbpmaakkiaaDk8toDk9q

namespace Go.Proofs.Yticgkbpmaakkiaa
open Go.RowKit

set_option maxRecDepth 100000 in
theorem Read_nil (w : World) (n : Int) : Calls Try.prog 17 #[.pointer none, .int .i64 n] w fun e w' => e = .returned (.tuple #[.slice none 0 0, .int .i64 1]) ∧ w = w' := by
  go_enter Try.func17, Try.ntmps17
  go_wp2
  go_ret2
  exact ⟨rfl, rfl⟩

set_option maxRecDepth 100000 in
theorem Read_down (w : World) (p m : Nat) (pv : Value) (D : Dsk) (n : Int) (h : DiskAt w p m pv D) (hd : D.down = true) :
    Calls Try.prog 17 #[.pointer (some ⟨p, 0, none⟩), .int .i64 n] w fun e w' => e = .returned (.tuple #[.slice none 0 0, .int .i64 28]) ∧ w = w' := by
  obtain ⟨c0, c1, c2, c3, c4, c5, c6⟩ := h.cell
  rw [hd] at c6
  clear h c0 c1 c2 c3 c4 c5
  go_enter Try.func17, Try.ntmps17
  go_wp2
  go_ret2
  exact ⟨rfl, rfl⟩

set_option maxRecDepth 100000 in
theorem Read_no (w : World) (p m : Nat) (pv : Value) (D : Dsk) (n : Int) (h : DiskAt w p m pv D) (hd : D.down = false) (hh : D.has n = false) :
    Calls Try.prog 17 #[.pointer (some ⟨p, 0, none⟩), .int .i64 n] w fun e w' => e = .returned (.tuple #[.slice none 0 0, .int .i64 8]) ∧ w = w' := by
  obtain ⟨c0, c1, c2, c3, c4, c5, c6⟩ := h.cell
  rw [hd] at c6
  have HH := Lib.hid h
  clear h c0 c1 c2 c3 c4 c5
  go_enter Try.func17, Try.ntmps17
  go_wp2_with (first | (go_at_call 37; refine (has_c w p m pv D n HH.out).mono ?_; rintro e w' ⟨rfl, rfl⟩))
  go_ret2
  exact ⟨rfl, rfl⟩

set_option maxRecDepth 100000 in
theorem Read_ok (w : World) (p m : Nat) (pv : Value) (D : Dsk) (n : Int) (h : DiskAt w p m pv D) (hd : D.down = false) (hh : D.has n = true) (hl : D.pend.length ≤ 100000) :
    Calls Try.prog 17 #[.pointer (some ⟨p, 0, none⟩), .int .i64 n] w fun e w' => ∃ g, e = .returned (.tuple #[.slice (some ⟨g, 0, none⟩) 256 256, .int .i64 0]) ∧
      w'.heap[g]? = some (.cells (u8s (D.see n).1).toArray 80) ∧ w.heap.size ≤ g ∧ Fr Non w w' := by
  obtain ⟨c0, c1, c2, c3, c4, c5, c6⟩ := h.cell
  rw [hd] at c6
  have HH := Lib.hid h
  have HL := Lib.hid hl
  clear h c0 c1 c2 c3 c4 c5 hl
  go_enter Try.func17, Try.ntmps17
  go_wp2_with (first
    | (go_at_call 37; refine (has_c w p m pv D n HH.out).mono ?_; rintro e w' ⟨rfl, rfl⟩)
    | (go_at_call 38; refine (visible_c w p m pv D n HH.out HL.out).mono ?_; rintro e w1 ⟨rfl, hF1⟩; have HF1 := Lib.hid hF1; clear hF1)
    | (guard_target =~ wpList _ _ _ (⟨_, Op.alloc 80, _, _, _, _⟩ :: _) _ _; refine wl rfl (r_allocA rfl (zero80 _)) ?_)
    | (guard_target =~ wpList _ _ _ (⟨_, Op.store 80 _ _, _, _, _, _⟩ :: _) _ _; refine wu rfl (r_store_new (c' := (u8s (D.see n).1).toArray) rfl rfl rfl (by simp [sz80, sec_len]) (by simp [sec_len]) (all_oneCell_toArray (u8s_one _))) ?_)
    | fail)
  go_ret2
  exact ⟨w1.heap.size, rfl, heap_alloc_new _ _, HF1.out.size, HF1.out.alloc _⟩
end Go.Proofs.Yticgkbpmaakkiaa

namespace Go.Proofs.Yticgkbpmaakkiaa
open Go.RowKit

theorem store_at (D : Dsk) (k j : Int) (s : Sec) : (D.store k s).at j = if j = k then s else D.at j := by
  unfold Dsk.at Dsk.store
  simp only []
  split
  · split
    · rename_i h; rw [h]; rfl
    · rfl
  · rfl

def knownSec : Sec := ⟨bytesL 7 0, bytesL_length 7 0⟩
def known0 : Dsk := { (Dsk.fresh 4).count with pend := [] ++ [(1, knownSec)] }
def known1 : Dsk := { known0 with down := true }
theorem known_see : (known1.restart [8]).see 1 = torn zeroSec knownSec 8 := by
  show (known1.restartTo [8] 1).at 1 = _
  unfold Dsk.restartTo
  simp only [known1, known0, List.nil_append, List.getElem?_cons_zero]
  rw [store_at, if_pos rfl]
  rfl
theorem known_31 : (u8s (torn zeroSec knownSec 8).1)[31]? = some (.int .u8 7) := by kernel_rfl
theorem known_32 : (u8s (torn zeroSec knownSec 8).1)[32]? = some (.int .u8 0) := by kernel_rfl

set_option maxRecDepth 100000 in
set_option maxHeartbeats 1000000 in
theorem known_c (w : World) : Calls Try.prog 11 #[] w fun e w' => e = .returned (.bool true) ∧ Fr Non w w' := by
  go_enter Try.func11, Try.ntmps11
  go_wp2_with (first
    | (go_at_call 12; refine (New_yes w 4 (by omega) (by omega)).mono ?_; rintro e w1 ⟨rfl, h1, hF1⟩; have H1 := Lib.hid h1; have HF1 := Lib.hid hF1; have hp1 : ∃ p, p = w.heap.size + 1 := ⟨_, rfl⟩; clear h1 hF1)
    | (go_at_call 21; refine (Bytes_c w1 7 0).mono ?_; rintro e w2 ⟨rfl, h2, hF2⟩; have H2 := Lib.hid h2; have HF2 := Lib.hid hF2; clear h2 hF2)
    | (go_at_call 20; go_loud (refine (Write_ok w2 _ _ _ (Dsk.fresh 4) 1 _ knownSec (H1.out.fr HF2.out (fun _ _ h => h)) rfl (by decide) rfl (by decide) (BytesAt.of_block H2.out 256 256 rfl) (fun k hk => ⟨by have e : w1.heap.size = k := Option.some.inj hk; have := H1.out.plt; omega, by intro h; cases h⟩)).mono ?_; rintro e w3 ⟨rfl, h3⟩; obtain ⟨pv3, hd3, hF3, ho3⟩ := h3; have H3 := Lib.hid hd3; have HF3 := Lib.hid hF3; have HO3 := Lib.hid ho3; clear hd3 hF3 ho3))
    | (go_at_call 24; refine (Fail_c w3 _ _ pv3 known0 H3.out).mono ?_; rintro e w4 ⟨rfl, hd4, hF4⟩; have H4 := Lib.hid hd4; have HF4 := Lib.hid hF4; clear hd4 hF4)
    | (go_at_call 25; refine (Restart_ok (w4.alloc (.cells #[.int .u8 8] 5)) _ _ pv3 known1 (.slice (some ⟨w4.heap.size, 0, none⟩) 1 1) [8] (H4.out.fr ((Fr.refl Non w4).alloc _) (fun _ _ h => h)) rfl (by decide) (BytesAt.of_block (l := [8]) (t := 5) (heap_alloc_new w4 _) 1 1 rfl) (.inr fun k hk => (by have e : w4.heap.size = k := Option.some.inj hk; have := H4.out.mlt; omega)) (by decide)).mono ?_; rintro e w6 ⟨rfl, h6⟩; obtain ⟨pv6, hd6, hF6, ho6⟩ := h6; have H6 := Lib.hid hd6; have HF6 := Lib.hid hF6; clear hd6 hF6 ho6)
    | (go_at_call 17; refine (Read_ok w6 _ _ pv6 (known1.restart [8]) 1 H6.out rfl rfl (by decide)).mono ?_; rintro e w7 ⟨g, rfl, hg, hlg, hF7⟩; rw [known_see] at hg; have hc31 := cellOf hg 31 (by rw [List.getElem?_toArray]; exact known_31); have hc32 := cellOf hg 32 (by rw [List.getElem?_toArray]; exact known_32); have HF7 := Lib.hid hF7; clear hg hlg hF7)
    | fail)
  go_ret
  refine ⟨rfl, ?_⟩
  have f2 := HF1.out.trans HF2.out (fun _ _ h => h)
  have f3 := f2.trans HF3.out (fun i hi e => by rcases e with e | e | e <;> first | (exfalso; omega) | cases e)
  have f4 := (f3.trans HF4.out (fun i hi e => by exfalso; omega)).alloc (.cells #[.int .u8 8] 5)
  have f6 := f4.trans HF6.out (fun i hi e => by
    rcases e with e | e | e
    · exfalso; omega
    · exfalso; omega
    · rcases HO3.out i e with h | h
      · cases h
      · have := f2.size; exfalso; omega)
  exact f6.trans HF7.out (fun _ _ h => h)
end Go.Proofs.Yticgkbpmaakkiaa

namespace Go.Proofs.Yticgkbpmaakkiaa
open Go.RowKit

def enc8 (b : UInt8) : List Value := [.int .u8 (b.toNat : Int)]
theorem enc8_flat (l : List UInt8) : l.flatMap enc8 = u8s l := by
  induction l with
  | nil => rfl
  | cons x r ih => rw [List.flatMap_cons, ih]; rfl
theorem elem5 : ElemOk Try.prog 5 1 1 enc8 := ⟨⟨_, info5, rfl⟩, by omega, fun _ => rfl, fun x v hv => by rw [List.mem_singleton.1 hv]; rfl⟩

/-- A slice of bytes of the call's own. -/
abbrev OwnB (w : World) (v : Value) (l : List UInt8) : Prop := Own w 5 1 enc8 v l
theorem OwnB.bytes {w : World} {v : Value} {l : List UInt8} (h : OwnB w v l) : BytesAt w v l := by
  obtain ⟨a, cap, rfl, hc, hn, ha⟩ := Own.shape h
  refine ⟨a, cap, rfl, ?_⟩
  cases a with
  | none => exact .inl (hn rfl)
  | some ad =>
    obtain ⟨g, rfl⟩ := ha ad rfl
    refine .inr ⟨g, 0, rfl, fun j v hv => ?_⟩
    rw [u8s_get] at hv
    obtain ⟨x, hx, rfl⟩ := Option.map_eq_some_iff.1 hv
    have := Own.elem elem5 h hx 0 _ rfl
    simpa using this

theorem zero5 (w : World) : (zeroValue 5).run Try.prog w = .ok (.int .u8 0) w := (zero_of_info (show (Try.prog.info? 5).map (fun i => (i.zero, i.size)) = some (some (.int .u8 0), 1) from by kernel_rfl)).1 w
theorem run_empty30 (w : World) : (Instr.buildSlice 30 0 #[]).run Try.prog w = .ok (.slice (some ⟨w.heap.size, 0, none⟩) 0 0) (w.alloc (.cells #[] 5)) :=
  run_buildSlice_all (P := Try.prog) (vs := []) Try.underlying30 sz5 (zero5 w) (by simp) (by simp)

theorem own_empty (w : World) : OwnB (w.alloc (.cells #[] 5)) (.slice (some ⟨w.heap.size, 0, none⟩) 0 0) [] := by
  refine ⟨by simp, .inr ⟨w.heap.size, 0, #[], rfl, Nat.zero_le _, heap_alloc_new w _, ?_, ?_, ?_, ?_⟩⟩
  · simp
  · simp
  · simp
  · simp

theorem run_dup (w : World) (sv : Value) (l : List UInt8) (h : BytesAt w sv l) (h0 : l ≠ []) (hl : l.length ≤ 100000) :
    ∃ b cap w', (Builtin.append_ #[30, 30] 30 #[.slice (some ⟨w.heap.size, 0, none⟩) 0 0, sv]).run Try.prog (w.alloc (.cells #[] 5)) = .ok (.slice (some ⟨b, 0, none⟩) l.length cap) w' ∧
      OwnB w' (.slice (some ⟨b, 0, none⟩) l.length cap) l ∧ Fr Non w w' ∧ w.heap.size ≤ b ∧ b < w'.heap.size := by
  obtain ⟨a, c, rfl, hh | ⟨g, o, rfl, hr⟩⟩ := h
  · exact absurd hh h0
  obtain ⟨b, cap, w', h1, h2, h3, h4, h5⟩ := run_append_many (P := Try.prog) (t := 30) (ty := 30) elem5 Try.underlying30 (own_empty w) (g := g) (o := o) (c := c) (ys := l)
    (by rw [enc8_flat]; exact rangeAt_fr ((Fr.refl Non w).alloc _) hr (fun h => h)) h0 (by simp [maxLen]; omega) (by simp; omega)
  have hb : b = w.heap.size ∨ b = (w.alloc (.cells #[] 5)).heap.size := by
    rcases h4 with h | h
    · exact .inl (Option.some.inj h).symm
    · exact .inr h
  refine ⟨b, cap, w', by simpa using h1, by simpa using h2, ((Fr.refl Non w).alloc _).grown h3 (fun k hk hlt => by have e : w.heap.size = k := Option.some.inj hk; omega), ?_, h5⟩
  rcases hb with rfl | rfl
  · exact Nat.le_refl _
  · simp
end Go.Proofs.Yticgkbpmaakkiaa
