import Derived.Test.YticgkbpmaakkiaaDk9
namespace Go.Proofs.Yticgkbpmaakkiaa
open Go.RowKit

set_option maxRecDepth 100000 in
theorem Read_nil (w : World) (n : Int) : Calls Try.prog 17 #[.pointer none, .int .i64 n] w fun e w' => e = .returned (.tuple #[.slice none 0 0, .int .i64 1]) ∧ w = w' := by
  go_enter Try.func17, Try.ntmps17
  go_wp2
  go_ret2
  exact ⟨rfl, rfl⟩

set_option maxRecDepth 100000 in
theorem Read_down (w : World) (p m : Nat) (pv : Value) (D : Dsk) (n : Int) (h : DiskAt w p m pv D) (hd : D.down = true) :
    Calls Try.prog 17 #[.pointer (some ⟨p, 0, none⟩), .int .i64 n] w fun e w' => e = .returned (.tuple #[.slice none 0 0, .int .i64 28]) ∧ w = w' := by
  obtain ⟨c0, c1, c2, c3, c4, c5, c6⟩ := h.cell
  rw [hd] at c6
  clear h c0 c1 c2 c3 c4 c5
  go_enter Try.func17, Try.ntmps17
  go_wp2
  go_ret2
  exact ⟨rfl, rfl⟩

set_option maxRecDepth 100000 in
theorem Read_no (w : World) (p m : Nat) (pv : Value) (D : Dsk) (n : Int) (h : DiskAt w p m pv D) (hd : D.down = false) (hh : D.has n = false) :
    Calls Try.prog 17 #[.pointer (some ⟨p, 0, none⟩), .int .i64 n] w fun e w' => e = .returned (.tuple #[.slice none 0 0, .int .i64 8]) ∧ w = w' := by
  obtain ⟨c0, c1, c2, c3, c4, c5, c6⟩ := h.cell
  rw [hd] at c6
  have HH := Lib.hid h
  clear h c0 c1 c2 c3 c4 c5
  go_enter Try.func17, Try.ntmps17
  go_wp2_with (first | (go_at_call 37; refine (has_c w p m pv D n HH.out).mono ?_; rintro e w' ⟨rfl, rfl⟩))
  go_ret2
  exact ⟨rfl, rfl⟩

set_option maxRecDepth 100000 in
theorem Read_ok (w : World) (p m : Nat) (pv : Value) (D : Dsk) (n : Int) (h : DiskAt w p m pv D) (hd : D.down = false) (hh : D.has n = true) (hl : D.pend.length ≤ 100000) :
    Calls Try.prog 17 #[.pointer (some ⟨p, 0, none⟩), .int .i64 n] w fun e w' => ∃ g, e = .returned (.tuple #[.slice (some ⟨g, 0, none⟩) 256 256, .int .i64 0]) ∧
      w'.heap[g]? = some (.cells (u8s (D.see n).1).toArray 80) ∧ w.heap.size ≤ g ∧ Fr Non w w' := by
  obtain ⟨c0, c1, c2, c3, c4, c5, c6⟩ := h.cell
  rw [hd] at c6
  have HH := Lib.hid h
  have HL := Lib.hid hl
  clear h c0 c1 c2 c3 c4 c5 hl
  go_enter Try.func17, Try.ntmps17
  go_wp2_with (first
    | (go_at_call 37; refine (has_c w p m pv D n HH.out).mono ?_; rintro e w' ⟨rfl, rfl⟩)
    | (go_at_call 38; refine (visible_c w p m pv D n HH.out HL.out).mono ?_; rintro e w1 ⟨rfl, hF1⟩; have HF1 := Lib.hid hF1; clear hF1)
    | (guard_target =~ wpList _ _ _ (⟨_, Op.alloc 80, _, _, _, _⟩ :: _) _ _; refine wl rfl (r_allocA rfl (zero80 _)) ?_)
    | (guard_target =~ wpList _ _ _ (⟨_, Op.store 80 _ _, _, _, _, _⟩ :: _) _ _; refine wu rfl (r_store_new (c' := (u8s (D.see n).1).toArray) rfl rfl rfl (by simp [sz80, sec_len]) (by simp [sec_len]) (all_oneCell_toArray (u8s_one _))) ?_)
    | fail)
  go_ret2
  exact ⟨w1.heap.size, rfl, heap_alloc_new _ _, HF1.out.size, HF1.out.alloc _⟩
end Go.Proofs.Yticgkbpmaakkiaa
