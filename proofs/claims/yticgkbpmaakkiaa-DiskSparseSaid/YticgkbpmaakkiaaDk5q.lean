import Derived.Test.YticgkbpmaakkiaaDk3toDk4q
import Derived.Laws.EntriesVeiled
namespace Go.Proofs.Yticgkbpmaakkiaa
open Go.RowKit

/-! ### refusals -/
set_option maxRecDepth 100000 in
theorem Write_nil (w : World) (n : Int) (sv : Value) : Calls Try.prog 20 #[.pointer none, .int .i64 n, sv] w fun e w' => e = .returned (.int .i64 1) ∧ w = w' := by
  go_enter Try.func20, Try.ntmps20
  go_wp2
  go_ret
  exact ⟨rfl, rfl⟩
set_option maxRecDepth 100000 in
theorem Write_down (w : World) (p m : Nat) (pv : Value) (D : Dsk) (n : Int) (sv : Value) (h : DiskAt w p m pv D) (hd : D.down = true) :
    Calls Try.prog 20 #[.pointer (some ⟨p, 0, none⟩), .int .i64 n, sv] w fun e w' => e = .returned (.int .i64 28) ∧ w = w' := by
  obtain ⟨c0, c1, c2, c3, c4, c5, c6⟩ := h.cell
  rw [hd] at c6
  clear h c0 c1 c2 c3 c4 c5
  go_enter Try.func20, Try.ntmps20
  go_wp2
  go_ret
  exact ⟨rfl, rfl⟩
set_option maxRecDepth 100000 in
theorem Write_no (w : World) (p m : Nat) (pv : Value) (D : Dsk) (n : Int) (sv : Value) (h : DiskAt w p m pv D) (hd : D.down = false) (hh : D.has n = false) :
    Calls Try.prog 20 #[.pointer (some ⟨p, 0, none⟩), .int .i64 n, sv] w fun e w' => e = .returned (.int .i64 8) ∧ w = w' := by
  obtain ⟨c0, c1, c2, c3, c4, c5, c6⟩ := h.cell
  rw [hd] at c6
  have HH := Lib.hid h
  clear h c0 c1 c2 c3 c4 c5
  go_enter Try.func20, Try.ntmps20
  go_wp2_with (first | (go_at_call 37; refine (has_c w p m pv D n HH.out).mono ?_; rintro e w' ⟨rfl, rfl⟩))
  go_ret
  exact ⟨rfl, rfl⟩
set_option maxRecDepth 100000 in
theorem Write_len (w : World) (p m : Nat) (pv : Value) (D : Dsk) (n : Int) (a : Option Addr) (l c : Nat) (h : DiskAt w p m pv D) (hd : D.down = false) (hh : D.has n = true) (hl : l ≠ 256) :
    Calls Try.prog 20 #[.pointer (some ⟨p, 0, none⟩), .int .i64 n, .slice a l c] w fun e w' => e = .returned (.int .i64 2) ∧ w = w' := by
  obtain ⟨c0, c1, c2, c3, c4, c5, c6⟩ := h.cell
  rw [hd] at c6
  have HH := Lib.hid h
  have hb : ((l : Int) != 256) = true := by rw [bne_iff_ne]; omega
  clear h c0 c1 c2 c3 c4 c5 hl
  go_enter Try.func20, Try.ntmps20
  go_wp2_with (first | (go_at_call 37; refine (has_c w p m pv D n HH.out).mono ?_; rintro e w' ⟨rfl, rfl⟩))
  go_ret
  exact ⟨rfl, rfl⟩
set_option maxRecDepth 100000 in
theorem Write_spent (w : World) (p m : Nat) (pv : Value) (D : Dsk) (n : Int) (a : Option Addr) (c : Nat) (h : DiskAt w p m pv D) (hd : D.down = false) (hh : D.has n = true) (hs : D.spent = true) :
    Calls Try.prog 20 #[.pointer (some ⟨p, 0, none⟩), .int .i64 n, .slice a 256 c] w fun e w' => e = .returned (.int .i64 28) ∧ DiskAt w' p m pv { D with down := true } ∧ Fr (· = p) w w' := by
  obtain ⟨c0, c1, c2, c3, c4, c5, c6⟩ := h.cell
  rw [hd] at c6
  have HH := Lib.hid h
  clear h c0 c1 c2 c3 c4 c5
  go_enter Try.func20, Try.ntmps20
  go_wp2_with (first | (go_at_call 37; refine (has_c w p m pv D n HH.out).mono ?_; rintro e w' ⟨rfl, rfl⟩) | (go_at_call 39; refine (operate_no w p m _ D HH.out hs).mono ?_; rintro e w1 ⟨rfl, h1, hF1⟩; have HH1 := Lib.hid h1; have HF1 := Lib.hid hF1; clear h1 hF1))
  go_ret
  exact ⟨rfl, HH1.out, HF1.out⟩

set_option maxRecDepth 100000 in
theorem Flush_nil (w : World) : Calls Try.prog 19 #[.pointer none] w fun e w' => e = .returned (.int .i64 1) ∧ w = w' := by
  go_enter Try.func19, Try.ntmps19
  go_wp2
  go_ret
  exact ⟨rfl, rfl⟩
set_option maxRecDepth 100000 in
theorem Flush_down (w : World) (p m : Nat) (pv : Value) (D : Dsk) (h : DiskAt w p m pv D) (hd : D.down = true) :
    Calls Try.prog 19 #[.pointer (some ⟨p, 0, none⟩)] w fun e w' => e = .returned (.int .i64 28) ∧ w = w' := by
  obtain ⟨c0, c1, c2, c3, c4, c5, c6⟩ := h.cell
  rw [hd] at c6
  clear h c0 c1 c2 c3 c4 c5
  go_enter Try.func19, Try.ntmps19
  go_wp2
  go_ret
  exact ⟨rfl, rfl⟩
set_option maxRecDepth 100000 in
theorem Flush_spent (w : World) (p m : Nat) (pv : Value) (D : Dsk) (h : DiskAt w p m pv D) (hd : D.down = false) (hs : D.spent = true) :
    Calls Try.prog 19 #[.pointer (some ⟨p, 0, none⟩)] w fun e w' => e = .returned (.int .i64 28) ∧ DiskAt w' p m pv { D with down := true } ∧ Fr (· = p) w w' := by
  obtain ⟨c0, c1, c2, c3, c4, c5, c6⟩ := h.cell
  rw [hd] at c6
  have HH := Lib.hid h
  clear h c0 c1 c2 c3 c4 c5
  go_enter Try.func19, Try.ntmps19
  go_wp2_with (first | (go_at_call 39; refine (operate_no w p m _ D HH.out hs).mono ?_; rintro e w1 ⟨rfl, h1, hF1⟩; have HH1 := Lib.hid h1; have HF1 := Lib.hid hF1; clear h1 hF1))
  go_ret
  exact ⟨rfl, HH1.out, HF1.out⟩

/-! ### the fates -/
theorem info88 : (Try.prog.info? 88).map (fun i => (i.zero, i.size)) = some (some (.agg #[.nilFunc, .nilFunc, .nilFunc]), 3) := by kernel_rfl
theorem sz88 : (Try.prog.info? 88).map (·.size) = some 3 := by kernel_rfl
theorem zero88 (w : World) : (zeroValue 88).run Try.prog w = .ok (.agg #[.nilFunc, .nilFunc, .nilFunc]) w := (zero_of_info info88).1 w

set_option maxRecDepth 100000 in
theorem fates_c (w : World) : Calls Try.prog 42 #[] w fun e w' => e = .returned (.agg #[.func (.func 58) #[] #[], .func (.func 59) #[] #[], .func (.func 60) #[] #[]]) ∧ Fr Non w w' := by
  have hF : ∀ o, Fr Non w (w.alloc o) := fun o => (Fr.refl _ w).alloc o
  have HF := Lib.hid hF
  clear hF
  go_enter Try.func42, Try.ntmps42
  go_wp2
  refine bodyPost_ret (results_cell_row rfl _ _ w.heap.size 88 _ (0, 0) _ rfl (heap_alloc_new w _) Try.underlying88 rfl (by rw [sz88]; rfl)) rfl ⟨rfl, HF.out _⟩

def tornL (old b : List UInt8) (n : Nat) : List UInt8 := b.take n ++ old.drop n

set_option maxRecDepth 100000 in
theorem fate0_c (w : World) (s t : Sec) (c : Int) : Calls Try.prog 58 #[.agg (u8s s.1).toArray, .agg (u8s t.1).toArray, .int .u8 c] w fun e w' => e = .returned (.agg (u8s s.1).toArray) ∧ Fr Non w w' := by
  have hF : ∀ o1 o2 o3, Fr Non w (((w.alloc o1).alloc o2).alloc o3) := fun o1 o2 o3 => (((Fr.refl _ w).alloc o1).alloc o2).alloc o3
  have hld : ∀ z : Array Value, (((w.alloc (.cells (u8s s.1).toArray 80)).alloc (.cells (u8s t.1).toArray 80)).alloc (.cells z 80)).rangeAt w.heap.size 0 (u8s s.1) := fun z =>
    rangeAt_of (((Fr.refl Non (w.alloc (.cells (u8s s.1).toArray 80))).alloc _).alloc _ |>.keep (heap_alloc_new w _) (fun h => h)) 0 _ (by simp)
  have HL := Lib.hid hld
  have HF := Lib.hid hF
  clear hF hld
  go_enter Try.func58, Try.ntmps58
  go_wp2_with (first
    | (guard_target =~ wpList _ _ _ (⟨_, Op.box 80 _, _, _, _, _⟩ :: _) _ _; refine wl rfl (r_boxA rfl rfl) ?_)
    | (guard_target =~ wpList _ _ _ (⟨_, Op.alloc 80, _, _, _, _⟩ :: _) _ _; refine wl rfl (r_allocA rfl (zero80 _)) ?_)
    | (guard_target =~ wpList _ _ _ (⟨_, Op.load 80 _, _, _, _, _⟩ :: _) _ _; refine wl rfl (r_load (b := w.heap.size) (i := 0) rfl rfl (HL.out _) Try.underlying80 rfl (by rw [sz80, sec_len])) ?_)
    | (guard_target =~ wpList _ _ _ (⟨_, Op.store 80 _ _, _, _, _, _⟩ :: _) _ _; refine wu rfl (r_store_new (c' := (u8s s.1).toArray) rfl rfl rfl (by simp [sz80, sec_len]) (by simp [sec_len]) (all_oneCell_toArray (u8s_one s.1))) ?_)
    | fail)
  refine bodyPost_ret (results_cell_row rfl _ _ _ 80 _ (0, 0) _ rfl (heap_alloc_new ((w.alloc (.cells (u8s s.1).toArray 80)).alloc (.cells (u8s t.1).toArray 80)) _) Try.underlying80 rfl (by rw [sz80]; simp [sec_len])) rfl ⟨rfl, HF.out _ _ _⟩

set_option maxRecDepth 100000 in
theorem fate1_c (w : World) (s t : Sec) (c : Int) : Calls Try.prog 59 #[.agg (u8s s.1).toArray, .agg (u8s t.1).toArray, .int .u8 c] w fun e w' => e = .returned (.agg (u8s t.1).toArray) ∧ Fr Non w w' := by
  have hF : ∀ o1 o2 o3, Fr Non w (((w.alloc o1).alloc o2).alloc o3) := fun o1 o2 o3 => (((Fr.refl _ w).alloc o1).alloc o2).alloc o3
  have hld : ∀ z : Array Value, (((w.alloc (.cells (u8s s.1).toArray 80)).alloc (.cells (u8s t.1).toArray 80)).alloc (.cells z 80)).rangeAt (w.alloc (.cells (u8s s.1).toArray 80)).heap.size 0 (u8s t.1) := fun z =>
    rangeAt_of ((Fr.refl Non ((w.alloc (.cells (u8s s.1).toArray 80)).alloc (.cells (u8s t.1).toArray 80))).alloc _ |>.keep (heap_alloc_new (w.alloc (.cells (u8s s.1).toArray 80)) _) (fun h => h)) 0 _ (by simp)
  have HL := Lib.hid hld
  have HF := Lib.hid hF
  clear hF hld
  go_enter Try.func59, Try.ntmps59
  go_wp2_with (first
    | (guard_target =~ wpList _ _ _ (⟨_, Op.box 80 _, _, _, _, _⟩ :: _) _ _; refine wl rfl (r_boxA rfl rfl) ?_)
    | (guard_target =~ wpList _ _ _ (⟨_, Op.alloc 80, _, _, _, _⟩ :: _) _ _; refine wl rfl (r_allocA rfl (zero80 _)) ?_)
    | (guard_target =~ wpList _ _ _ (⟨_, Op.load 80 _, _, _, _, _⟩ :: _) _ _; refine wl rfl (r_load (b := (w.alloc (.cells (u8s s.1).toArray 80)).heap.size) (i := 0) rfl rfl (HL.out _) Try.underlying80 rfl (by rw [sz80, sec_len])) ?_)
    | (guard_target =~ wpList _ _ _ (⟨_, Op.store 80 _ _, _, _, _, _⟩ :: _) _ _; refine wu rfl (r_store_new (c' := (u8s t.1).toArray) rfl rfl rfl (by simp [sz80, sec_len]) (by simp [sec_len]) (all_oneCell_toArray (u8s_one t.1))) ?_)
    | fail)
  refine bodyPost_ret (results_cell_row rfl _ _ _ 80 _ (0, 0) _ rfl (heap_alloc_new ((w.alloc (.cells (u8s s.1).toArray 80)).alloc (.cells (u8s t.1).toArray 80)) _) Try.underlying80 rfl (by rw [sz80]; simp [sec_len])) rfl ⟨rfl, HF.out _ _ _⟩
end Go.Proofs.Yticgkbpmaakkiaa
