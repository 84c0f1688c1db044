/-
  The reference's Write.
-/
import Derived.Test.YticgkbpmaakkiaaDkKq
namespace Go.Proofs.Yticgkbpmaakkiaa
open Go.RowKit

set_option maxRecDepth 100000 in
theorem RWrite_down (w : World) (dv wv : Value) (D : Dsk) (n : Int) (a : Option Addr) (l c : Nat) (h : RefAt w dv wv D) (hd : D.down = true) :
    Calls Try.prog 47 #[.agg (refL dv wv D).toArray, .int .i64 n, .slice a l c] w fun e w' => e = .returned (.tuple #[.agg (refL dv wv D).toArray, .int .i64 28]) ∧ Fr Non w w' := by
  obtain ⟨w1, w2, hw1, hw2, hs1, hs2, hb, hz, hF2, -, -⟩ := box2 w (refL dv wv D).toArray
  have c3 : w2.cell? ⟨w.heap.size, 3, none⟩ = some (.bool D.down) := cellOf hb 3 rfl
  have HR := Lib.hid (rangeAt_of hb 0 (refL dv wv D) (by simp))
  have HB := Lib.hid hb
  have HZ := Lib.hid hz
  have HT := Lib.hid (there45 hz rfl)
  have HP := Lib.hid (put45 hz rfl (l := refL dv wv D) rfl)
  have HONE := Lib.hid (refL_one h D)
  have HF := Lib.hid (Fr.setCells (S := Non) w1.heap.size (fun h => by omega) (refL dv wv D) 0 w2 hF2)
  have HF2 := Lib.hid hF2
  have HH := Lib.hid h
  have HS1 := Lib.hid hs1
  rw [hd] at c3
  clear hs1 hs2 hb hz hF2 h
  go_enter Try.func47, Try.ntmps47
  go_wp2_with (first
    | (guard_target =~ wpList _ _ _ (⟨_, Op.box 45 _, _, _, _, _⟩ :: _) _ _; refine wl rfl (r_boxA rfl rfl) ?_; rw [hw1])
    | (guard_target =~ wpList _ _ _ (⟨_, Op.alloc 45, _, _, _, _⟩ :: _) _ _; refine wl rfl (r_allocA rfl (zero45 _)) ?_; rw [hw2])
    | (guard_target =~ wpList _ _ _ (⟨_, Op.load 45 _, _, _, _, _⟩ :: _) _ w2; refine wl rfl (r_load (b := w.heap.size) (i := 0) rfl rfl HR.out Try.underlying45 rfl (by rw [sz45]; rfl)) ?_)
    | (guard_target =~ wpList _ _ _ (⟨_, Op.store 45 _ _, _, _, _, _⟩ :: _) _ w2; refine wu rfl (r_store (b := w1.heap.size) (i := 0) (cs := refL dv wv D) rfl rfl rfl HT.out (by rw [sz45]; rfl) HONE.out) ?_)
    | fail)
  refine bodyPost_ret (results_cell_tmp rfl _ _ w1.heap.size 45 _ (0, 0) _ _ rfl HP.out rfl Try.underlying45 rfl (by rw [sz45]; rfl)) rfl ⟨rfl, HF.out⟩

set_option maxRecDepth 100000 in
theorem RWrite_no (w : World) (dv wv : Value) (D : Dsk) (n : Int) (a : Option Addr) (l c : Nat) (hD : Dok D) (h : RefAt w dv wv D) (hd : D.down = false) (hh : D.has n = false) :
    Calls Try.prog 47 #[.agg (refL dv wv D).toArray, .int .i64 n, .slice a l c] w fun e w' => e = .returned (.tuple #[.agg (refL dv wv D).toArray, .int .i64 8]) ∧ Fr Non w w' := by
  obtain ⟨w1, w2, hw1, hw2, hs1, hs2, hb, hz, hF2, -, -⟩ := box2 w (refL dv wv D).toArray
  have c3 : w2.cell? ⟨w.heap.size, 3, none⟩ = some (.bool D.down) := cellOf hb 3 rfl
  have HR := Lib.hid (rangeAt_of hb 0 (refL dv wv D) (by simp))
  have HB := Lib.hid hb
  have HZ := Lib.hid hz
  have HT := Lib.hid (there45 hz rfl)
  have HP := Lib.hid (put45 hz rfl (l := refL dv wv D) rfl)
  have HONE := Lib.hid (refL_one h D)
  have HF := Lib.hid (Fr.setCells (S := Non) w1.heap.size (fun h => by omega) (refL dv wv D) 0 w2 hF2)
  have HF2 := Lib.hid hF2
  have HH := Lib.hid h
  have HS1 := Lib.hid hs1
  rw [hd] at c3
  clear hs1 hs2 hb hz hF2 h
  go_enter Try.func47, Try.ntmps47
  go_wp2_with (first
    | (guard_target =~ wpList _ _ _ (⟨_, Op.box 45 _, _, _, _, _⟩ :: _) _ _; refine wl rfl (r_boxA rfl rfl) ?_; rw [hw1])
    | (guard_target =~ wpList _ _ _ (⟨_, Op.alloc 45, _, _, _, _⟩ :: _) _ _; refine wl rfl (r_allocA rfl (zero45 _)) ?_; rw [hw2])
    | (guard_target =~ wpList _ _ _ (⟨_, Op.load 45 _, _, _, _, _⟩ :: _) _ w2; refine wl rfl (r_load (b := w.heap.size) (i := 0) rfl rfl HR.out Try.underlying45 rfl (by rw [sz45]; rfl)) ?_)
    | (guard_target =~ wpList _ _ _ (⟨_, Op.store 45 _ _, _, _, _, _⟩ :: _) _ w2; refine wu rfl (r_store (b := w1.heap.size) (i := 0) (cs := refL dv wv D) rfl rfl rfl HT.out (by rw [sz45]; rfl) HONE.out) ?_)
    | (go_at_call 62; refine (is_c w2 dv wv D n hD (HH.out.non HF2.out)).mono ?_; rintro e w3 ⟨rfl, hF3⟩; have HF3 := Lib.hid hF3; have HB3 := Lib.hid (hF3.keep HB.out (fun h => h)); have HZ3 := Lib.hid (hF3.keep HZ.out (fun h => h)); clear hF3)
    | (guard_target =~ wpList _ _ _ (⟨_, Op.load 45 _, _, _, _, _⟩ :: _) _ w3; refine wl rfl (r_load (b := w.heap.size) (i := 0) rfl rfl (rangeAt_of HB3.out 0 (refL dv wv D) (by simp)) Try.underlying45 rfl (by rw [sz45]; rfl)) ?_)
    | (guard_target =~ wpList _ _ _ (⟨_, Op.store 45 _ _, _, _, _, _⟩ :: _) _ w3; refine wu rfl (r_store (b := w1.heap.size) (i := 0) (cs := refL dv wv D) rfl rfl rfl (there45 HZ3.out rfl) (by rw [sz45]; rfl) HONE.out) ?_)
    | fail)
  refine bodyPost_ret (results_cell_tmp rfl _ _ w1.heap.size 45 _ (0, 0) _ _ rfl (put45 HZ3.out rfl rfl) rfl Try.underlying45 rfl (by rw [sz45]; rfl)) rfl ⟨rfl, Fr.setCells _ (fun h => by have := HS1.out; omega) _ _ _ (HF2.out.trans HF3.out (fun _ _ h => h))⟩

set_option maxRecDepth 100000 in
theorem RWrite_len (w : World) (dv wv : Value) (D : Dsk) (n : Int) (a : Option Addr) (l c : Nat) (hD : Dok D) (h : RefAt w dv wv D) (hd : D.down = false) (hh : D.has n = true) (hl : l ≠ 256) :
    Calls Try.prog 47 #[.agg (refL dv wv D).toArray, .int .i64 n, .slice a l c] w fun e w' => e = .returned (.tuple #[.agg (refL dv wv D).toArray, .int .i64 2]) ∧ Fr Non w w' := by
  obtain ⟨w1, w2, hw1, hw2, hs1, hs2, hb, hz, hF2, -, -⟩ := box2 w (refL dv wv D).toArray
  have c3 : w2.cell? ⟨w.heap.size, 3, none⟩ = some (.bool D.down) := cellOf hb 3 rfl
  have HR := Lib.hid (rangeAt_of hb 0 (refL dv wv D) (by simp))
  have HB := Lib.hid hb
  have HZ := Lib.hid hz
  have HT := Lib.hid (there45 hz rfl)
  have HP := Lib.hid (put45 hz rfl (l := refL dv wv D) rfl)
  have HONE := Lib.hid (refL_one h D)
  have HF := Lib.hid (Fr.setCells (S := Non) w1.heap.size (fun h => by omega) (refL dv wv D) 0 w2 hF2)
  have HF2 := Lib.hid hF2
  have HH := Lib.hid h
  have HS1 := Lib.hid hs1
  rw [hd] at c3
  have hlb : ((l : Int) != 256) = true := by rw [bne_iff_ne]; omega
  clear hl
  clear hs1 hs2 hb hz hF2 h
  go_enter Try.func47, Try.ntmps47
  go_wp2_with (first
    | (guard_target =~ wpList _ _ _ (⟨_, Op.box 45 _, _, _, _, _⟩ :: _) _ _; refine wl rfl (r_boxA rfl rfl) ?_; rw [hw1])
    | (guard_target =~ wpList _ _ _ (⟨_, Op.alloc 45, _, _, _, _⟩ :: _) _ _; refine wl rfl (r_allocA rfl (zero45 _)) ?_; rw [hw2])
    | (guard_target =~ wpList _ _ _ (⟨_, Op.load 45 _, _, _, _, _⟩ :: _) _ w2; refine wl rfl (r_load (b := w.heap.size) (i := 0) rfl rfl HR.out Try.underlying45 rfl (by rw [sz45]; rfl)) ?_)
    | (guard_target =~ wpList _ _ _ (⟨_, Op.store 45 _ _, _, _, _, _⟩ :: _) _ w2; refine wu rfl (r_store (b := w1.heap.size) (i := 0) (cs := refL dv wv D) rfl rfl rfl HT.out (by rw [sz45]; rfl) HONE.out) ?_)
    | (go_at_call 62; refine (is_c w2 dv wv D n hD (HH.out.non HF2.out)).mono ?_; rintro e w3 ⟨rfl, hF3⟩; have HF3 := Lib.hid hF3; have HB3 := Lib.hid (hF3.keep HB.out (fun h => h)); have HZ3 := Lib.hid (hF3.keep HZ.out (fun h => h)); clear hF3)
    | (guard_target =~ wpList _ _ _ (⟨_, Op.load 45 _, _, _, _, _⟩ :: _) _ w3; refine wl rfl (r_load (b := w.heap.size) (i := 0) rfl rfl (rangeAt_of HB3.out 0 (refL dv wv D) (by simp)) Try.underlying45 rfl (by rw [sz45]; rfl)) ?_)
    | (guard_target =~ wpList _ _ _ (⟨_, Op.store 45 _ _, _, _, _, _⟩ :: _) _ w3; refine wu rfl (r_store (b := w1.heap.size) (i := 0) (cs := refL dv wv D) rfl rfl rfl (there45 HZ3.out rfl) (by rw [sz45]; rfl) HONE.out) ?_)
    | fail)
  refine bodyPost_ret (results_cell_tmp rfl _ _ w1.heap.size 45 _ (0, 0) _ _ rfl (put45 HZ3.out rfl rfl) rfl Try.underlying45 rfl (by rw [sz45]; rfl)) rfl ⟨rfl, Fr.setCells _ (fun h => by have := HS1.out; omega) _ _ _ (HF2.out.trans HF3.out (fun _ _ h => h))⟩

set_option maxRecDepth 100000 in
theorem RFlush_down (w : World) (dv wv : Value) (D : Dsk)  (h : RefAt w dv wv D) (hd : D.down = true) :
    Calls Try.prog 28 #[.agg (refL dv wv D).toArray] w fun e w' => e = .returned (.tuple #[.agg (refL dv wv D).toArray, .int .i64 28]) ∧ Fr Non w w' := by
  obtain ⟨w1, w2, hw1, hw2, hs1, hs2, hb, hz, hF2, -, -⟩ := box2 w (refL dv wv D).toArray
  have c3 : w2.cell? ⟨w.heap.size, 3, none⟩ = some (.bool D.down) := cellOf hb 3 rfl
  have HR := Lib.hid (rangeAt_of hb 0 (refL dv wv D) (by simp))
  have HB := Lib.hid hb
  have HZ := Lib.hid hz
  have HT := Lib.hid (there45 hz rfl)
  have HP := Lib.hid (put45 hz rfl (l := refL dv wv D) rfl)
  have HONE := Lib.hid (refL_one h D)
  have HF := Lib.hid (Fr.setCells (S := Non) w1.heap.size (fun h => by omega) (refL dv wv D) 0 w2 hF2)
  have HF2 := Lib.hid hF2
  have HH := Lib.hid h
  have HS1 := Lib.hid hs1
  rw [hd] at c3
  clear hs1 hs2 hb hz hF2 h
  go_enter Try.func28, Try.ntmps28
  go_wp2_with (first
    | (guard_target =~ wpList _ _ _ (⟨_, Op.box 45 _, _, _, _, _⟩ :: _) _ _; refine wl rfl (r_boxA rfl rfl) ?_; rw [hw1])
    | (guard_target =~ wpList _ _ _ (⟨_, Op.alloc 45, _, _, _, _⟩ :: _) _ _; refine wl rfl (r_allocA rfl (zero45 _)) ?_; rw [hw2])
    | (guard_target =~ wpList _ _ _ (⟨_, Op.load 45 _, _, _, _, _⟩ :: _) _ w2; refine wl rfl (r_load (b := w.heap.size) (i := 0) rfl rfl HR.out Try.underlying45 rfl (by rw [sz45]; rfl)) ?_)
    | (guard_target =~ wpList _ _ _ (⟨_, Op.store 45 _ _, _, _, _, _⟩ :: _) _ w2; refine wu rfl (r_store (b := w1.heap.size) (i := 0) (cs := refL dv wv D) rfl rfl rfl HT.out (by rw [sz45]; rfl) HONE.out) ?_)
    | fail)
  refine bodyPost_ret (results_cell_tmp rfl _ _ w1.heap.size 45 _ (0, 0) _ _ rfl HP.out rfl Try.underlying45 rfl (by rw [sz45]; rfl)) rfl ⟨rfl, HF.out⟩

set_option maxRecDepth 100000 in
theorem RRestart_up (w : World) (dv wv : Value) (D : Dsk) (a : Option Addr) (l c : Nat) (h : RefAt w dv wv D) (hd : D.down = false) :
    Calls Try.prog 49 #[.agg (refL dv wv D).toArray, .slice a l c] w fun e w' => e = .returned (.tuple #[.agg (refL dv wv D).toArray, .int .i64 10]) ∧ Fr Non w w' := by
  obtain ⟨w1, w2, hw1, hw2, hs1, hs2, hb, hz, hF2, -, -⟩ := box2 w (refL dv wv D).toArray
  have c3 : w2.cell? ⟨w.heap.size, 3, none⟩ = some (.bool D.down) := cellOf hb 3 rfl
  have HR := Lib.hid (rangeAt_of hb 0 (refL dv wv D) (by simp))
  have HB := Lib.hid hb
  have HZ := Lib.hid hz
  have HT := Lib.hid (there45 hz rfl)
  have HP := Lib.hid (put45 hz rfl (l := refL dv wv D) rfl)
  have HONE := Lib.hid (refL_one h D)
  have HF := Lib.hid (Fr.setCells (S := Non) w1.heap.size (fun h => by omega) (refL dv wv D) 0 w2 hF2)
  have HF2 := Lib.hid hF2
  have HH := Lib.hid h
  have HS1 := Lib.hid hs1
  rw [hd] at c3
  clear hs1 hs2 hb hz hF2 h
  go_enter Try.func49, Try.ntmps49
  go_wp2_with (first
    | (guard_target =~ wpList _ _ _ (⟨_, Op.box 45 _, _, _, _, _⟩ :: _) _ _; refine wl rfl (r_boxA rfl rfl) ?_; rw [hw1])
    | (guard_target =~ wpList _ _ _ (⟨_, Op.alloc 45, _, _, _, _⟩ :: _) _ _; refine wl rfl (r_allocA rfl (zero45 _)) ?_; rw [hw2])
    | (guard_target =~ wpList _ _ _ (⟨_, Op.load 45 _, _, _, _, _⟩ :: _) _ w2; refine wl rfl (r_load (b := w.heap.size) (i := 0) rfl rfl HR.out Try.underlying45 rfl (by rw [sz45]; rfl)) ?_)
    | (guard_target =~ wpList _ _ _ (⟨_, Op.store 45 _ _, _, _, _, _⟩ :: _) _ w2; refine wu rfl (r_store (b := w1.heap.size) (i := 0) (cs := refL dv wv D) rfl rfl rfl HT.out (by rw [sz45]; rfl) HONE.out) ?_)
    | fail)
  refine bodyPost_ret (results_cell_tmp rfl _ _ w1.heap.size 45 _ (0, 0) _ _ rfl HP.out rfl Try.underlying45 rfl (by rw [sz45]; rfl)) rfl ⟨rfl, HF.out⟩

set_option maxRecDepth 100000 in
theorem RDamage_no (w : World) (dv wv : Value) (D : Dsk) (n i b : Int) (hD : Dok D) (h : RefAt w dv wv D) (hh : D.has n = false) :
    Calls Try.prog 50 #[.agg (refL dv wv D).toArray, .int .i64 n, .int .i64 i, .int .u8 b] w fun e w' => e = .returned (.tuple #[.agg (refL dv wv D).toArray, .int .i64 8]) ∧ Fr Non w w' := by
  obtain ⟨w1, w2, hw1, hw2, hs1, hs2, hb, hz, hF2, -, -⟩ := box2 w (refL dv wv D).toArray
  have c3 : w2.cell? ⟨w.heap.size, 3, none⟩ = some (.bool D.down) := cellOf hb 3 rfl
  have HR := Lib.hid (rangeAt_of hb 0 (refL dv wv D) (by simp))
  have HB := Lib.hid hb
  have HZ := Lib.hid hz
  have HT := Lib.hid (there45 hz rfl)
  have HP := Lib.hid (put45 hz rfl (l := refL dv wv D) rfl)
  have HONE := Lib.hid (refL_one h D)
  have HF := Lib.hid (Fr.setCells (S := Non) w1.heap.size (fun h => by omega) (refL dv wv D) 0 w2 hF2)
  have HF2 := Lib.hid hF2
  have HH := Lib.hid h
  have HS1 := Lib.hid hs1
  clear c3
  clear hs1 hs2 hb hz hF2 h
  go_enter Try.func50, Try.ntmps50
  go_wp2_with (first
    | (guard_target =~ wpList _ _ _ (⟨_, Op.box 45 _, _, _, _, _⟩ :: _) _ _; refine wl rfl (r_boxA rfl rfl) ?_; rw [hw1])
    | (guard_target =~ wpList _ _ _ (⟨_, Op.alloc 45, _, _, _, _⟩ :: _) _ _; refine wl rfl (r_allocA rfl (zero45 _)) ?_; rw [hw2])
    | (guard_target =~ wpList _ _ _ (⟨_, Op.load 45 _, _, _, _, _⟩ :: _) _ w2; refine wl rfl (r_load (b := w.heap.size) (i := 0) rfl rfl HR.out Try.underlying45 rfl (by rw [sz45]; rfl)) ?_)
    | (guard_target =~ wpList _ _ _ (⟨_, Op.store 45 _ _, _, _, _, _⟩ :: _) _ w2; refine wu rfl (r_store (b := w1.heap.size) (i := 0) (cs := refL dv wv D) rfl rfl rfl HT.out (by rw [sz45]; rfl) HONE.out) ?_)
    | (go_at_call 62; refine (is_c w2 dv wv D n hD (HH.out.non HF2.out)).mono ?_; rintro e w3 ⟨rfl, hF3⟩; have HF3 := Lib.hid hF3; have HB3 := Lib.hid (hF3.keep HB.out (fun h => h)); have HZ3 := Lib.hid (hF3.keep HZ.out (fun h => h)); clear hF3)
    | (guard_target =~ wpList _ _ _ (⟨_, Op.load 45 _, _, _, _, _⟩ :: _) _ w3; refine wl rfl (r_load (b := w.heap.size) (i := 0) rfl rfl (rangeAt_of HB3.out 0 (refL dv wv D) (by simp)) Try.underlying45 rfl (by rw [sz45]; rfl)) ?_)
    | (guard_target =~ wpList _ _ _ (⟨_, Op.store 45 _ _, _, _, _, _⟩ :: _) _ w3; refine wu rfl (r_store (b := w1.heap.size) (i := 0) (cs := refL dv wv D) rfl rfl rfl (there45 HZ3.out rfl) (by rw [sz45]; rfl) HONE.out) ?_)
    | fail)
  refine bodyPost_ret (results_cell_tmp rfl _ _ w1.heap.size 45 _ (0, 0) _ _ rfl (put45 HZ3.out rfl rfl) rfl Try.underlying45 rfl (by rw [sz45]; rfl)) rfl ⟨rfl, Fr.setCells _ (fun h => by have := HS1.out; omega) _ _ _ (HF2.out.trans HF3.out (fun _ _ h => h))⟩

end Go.Proofs.Yticgkbpmaakkiaa
