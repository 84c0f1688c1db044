/-
  Do: Read.
  Do: Write.
-/
import Derived.Test.YticgkbpmaakkiaaDkUq

namespace Go.Proofs.Yticgkbpmaakkiaa
open Go.RowKit

theorem OwnB.bytes' {w : World} {g cap : Nat} {l : List UInt8} (h : OwnB w (.slice (some ⟨g, 0, none⟩) 256 cap) l) (_hl : l.length = 256) : BytesAt w (.slice (some ⟨g, 0, none⟩) 256 cap) l := OwnB.bytes h
theorem read_fin {w w5 : World} {p m : Nat} {pv : Value} {D : Dsk} {dv wv : Value} {br : Nat} (h0 : DiskAt w p m pv D) (hR : RefAt w dv wv D) (hF : Fr Non w w5) (hr : w5.heap[br]? = some (.cells zref 45)) (g1 : w.heap.size ≤ br) :
    w5.there br 0 5 ∧ (w5.setCells br 0 (refL dv wv D)).heap[br]? = some (.cells (refL dv wv D).toArray 45) ∧ Step w (w5.setCells br 0 (refL dv wv D)) p m pv D ∧ RefAt (w5.setCells br 0 (refL dv wv D)) dv wv D := by
  have x5 : Fr (· = br) w5 (w5.setCells br 0 (refL dv wv D)) := Fr.setCells (S := (· = br)) _ (fun _ => rfl) _ _ _ (Fr.refl _ _)
  have hA : Apart w5 (· = br) := by
    rintro k rfl cs
    rw [hr]; exact ⟨by simp, by simp, by simp⟩
  have hN : Fr Non w (w5.setCells br 0 (refL dv wv D)) := hF.trans x5 (fun i hi e => by exfalso; omega)
  exact ⟨there45 hr rfl, put45 hr rfl rfl, Step.refl h0 hN, (hR.non hF).fr x5 hA⟩

set_option maxRecDepth 100000 in
set_option maxHeartbeats 1000000 in
theorem Do_read_down (w : World) (p m : Nat) (pv dv wv : Value) (D : Dsk) (o : OpS) (ca : Option Addr) (cl cc : Nat) (hd : D.down = true) (hD : Dok D) (hl : D.pend.length ≤ 49999) (h : DiskAt w p m pv D) (hr : RefAt w dv wv D) (hk : o.kind = 2) :
    Calls Try.prog 29 #[.pointer (some ⟨p, 0, none⟩), .agg (refL dv wv D).toArray, .agg (opL o (.slice ca cl cc)).toArray] w fun e w' => DoTo w w' p m pv e D := by
  obtain ⟨w1, w2, w3, hw1, hw2, hw3, hs1, hs2, hs3, hb, ho, hz, hF3⟩ := box3 w (refL dv wv D).toArray (opL o (.slice ca cl cc)).toArray
  have e0 : w3.cell? ⟨w1.heap.size, 0, none⟩ = some (.int .i64 2) := by rw [← hk]; exact cellOf ho 0 rfl
  have e1 : w3.cell? ⟨w1.heap.size, 1, none⟩ = some (.int .i64 o.sec) := cellOf ho 1 rfl
  have hd3 : DiskAt w3 p m pv D := h.fr hF3 (fun _ _ h => h)
  have H := Lib.hid h
  have HR := Lib.hid hr
  have HB := Lib.hid hb
  have HO := Lib.hid ho
  have HZ := Lib.hid hz
  have HF3 := Lib.hid hF3
  have HD3 := Lib.hid hd3
  have HSZ := Lib.hid (And.intro hs1 (And.intro hs2 hs3))
  clear h hr hb ho hz hF3 hd3 hs1 hs2 hs3 hk
  go_enter Try.func29, Try.ntmps29
  go_wp2_with (first
    | (guard_target =~ wpList _ _ _ (⟨_, Op.box 45 _, _, _, _, _⟩ :: _) _ _; refine wl rfl (r_boxA rfl rfl) ?_; rw [hw1])
    | (guard_target =~ wpList _ _ _ (⟨_, Op.box 60 _, _, _, _, _⟩ :: _) _ _; refine wl rfl (r_boxA rfl rfl) ?_; rw [hw2])
    | (guard_target =~ wpList _ _ _ (⟨_, Op.alloc 45, _, _, _, _⟩ :: _) _ _; refine wl rfl (r_allocA rfl (zero45 _)) ?_; rw [hw3])
    | (go_at_call 17; refine (Read_down w3 p m pv D o.sec HD3.out hd).mono ?_; rintro e w4 ⟨rfl, rfl⟩; have hF4 := Fr.refl Non w3; have HF4 := Lib.hid hF4; have HB4 := Lib.hid (hF4.keep HB.out (fun h => h)); have HZ4 := Lib.hid (hF4.keep HZ.out (fun h => h)); have q1 := cellOf (hF4.keep HO.out (fun h => h)) 1 rfl; have HR4 := Lib.hid ((HR.out.non HF3.out).non hF4); clear hF4)
    | (guard_target =~ wpList _ _ _ (⟨_, Op.load 45 _, _, _, _, _⟩ :: _) _ w3; refine wl rfl (r_load (b := w.heap.size) (i := 0) rfl rfl (rangeAt_of HB4.out 0 (refL dv wv D) (by simp)) Try.underlying45 rfl (by rw [sz45]; rfl)) ?_)
    | (go_at_call 48; refine (RRead_down w3 dv wv D o.sec hd).mono ?_; rintro e w5 ⟨rfl, hF5⟩; have HF5 := Lib.hid hF5; have HB5 := Lib.hid (hF5.keep HB4.out (fun h => h)); have HX := Lib.hid (read_fin H.out HR.out ((HF3.out.trans HF4.out (fun _ _ h => h)).trans hF5 (fun _ _ h => h)) (hF5.keep HZ4.out (fun h => h)) (by have := HSZ.out; omega)); clear hF5; skip)
    | (guard_target =~ wpList _ _ _ (⟨_, Op.load 45 _, _, _, _, _⟩ :: _) _ w5; refine wl rfl (r_load (b := w.heap.size) (i := 0) rfl rfl (rangeAt_of HB5.out 0 (refL dv wv D) (by simp)) Try.underlying45 rfl (by rw [sz45]; rfl)) ?_)
    | (guard_target =~ wpList _ _ _ (⟨_, Op.store 45 _ _, _, _, _, _⟩ :: _) _ w5; refine wu rfl (r_store (b := w2.heap.size) (i := 0) (cs := refL dv wv D) rfl rfl rfl HX.out.1 (by rw [sz45]; rfl) (refL_one HR.out _)) ?_; generalize w5.setCells w2.heap.size 0 (refL dv wv D) = W6 at *)
    | (guard_target =~ wpList _ _ _ (⟨_, Op.convert 30 9 _, _, _, _, _⟩ :: _) _ _; refine wl rfl (r_convert (u := .slice none 0 0) rfl rfl (run_str Try.underlying30 Try.underlying5 Try.underlying9 (BytesAt.nil w5))) ?_)
    | fail)
  refine bodyPost_ret (results_cell_tmp rfl _ _ w2.heap.size 45 _ (0, 0) _ _ rfl HX.out.2.1 rfl Try.underlying45 rfl (by rw [sz45]; rfl)) rfl ⟨dv, wv, rfl, HX.out.2.2.1, HX.out.2.2.2⟩

set_option maxRecDepth 100000 in
set_option maxHeartbeats 1000000 in
theorem Do_read_no (w : World) (p m : Nat) (pv dv wv : Value) (D : Dsk) (o : OpS) (ca : Option Addr) (cl cc : Nat) (hd : D.down = false) (hh : D.has o.sec = false) (hD : Dok D) (hl : D.pend.length ≤ 49999) (h : DiskAt w p m pv D) (hr : RefAt w dv wv D) (hk : o.kind = 2) :
    Calls Try.prog 29 #[.pointer (some ⟨p, 0, none⟩), .agg (refL dv wv D).toArray, .agg (opL o (.slice ca cl cc)).toArray] w fun e w' => DoTo w w' p m pv e D := by
  obtain ⟨w1, w2, w3, hw1, hw2, hw3, hs1, hs2, hs3, hb, ho, hz, hF3⟩ := box3 w (refL dv wv D).toArray (opL o (.slice ca cl cc)).toArray
  have e0 : w3.cell? ⟨w1.heap.size, 0, none⟩ = some (.int .i64 2) := by rw [← hk]; exact cellOf ho 0 rfl
  have e1 : w3.cell? ⟨w1.heap.size, 1, none⟩ = some (.int .i64 o.sec) := cellOf ho 1 rfl
  have hd3 : DiskAt w3 p m pv D := h.fr hF3 (fun _ _ h => h)
  have H := Lib.hid h
  have HR := Lib.hid hr
  have HB := Lib.hid hb
  have HO := Lib.hid ho
  have HZ := Lib.hid hz
  have HF3 := Lib.hid hF3
  have HD3 := Lib.hid hd3
  have HSZ := Lib.hid (And.intro hs1 (And.intro hs2 hs3))
  clear h hr hb ho hz hF3 hd3 hs1 hs2 hs3 hk
  go_enter Try.func29, Try.ntmps29
  go_wp2_with (first
    | (guard_target =~ wpList _ _ _ (⟨_, Op.box 45 _, _, _, _, _⟩ :: _) _ _; refine wl rfl (r_boxA rfl rfl) ?_; rw [hw1])
    | (guard_target =~ wpList _ _ _ (⟨_, Op.box 60 _, _, _, _, _⟩ :: _) _ _; refine wl rfl (r_boxA rfl rfl) ?_; rw [hw2])
    | (guard_target =~ wpList _ _ _ (⟨_, Op.alloc 45, _, _, _, _⟩ :: _) _ _; refine wl rfl (r_allocA rfl (zero45 _)) ?_; rw [hw3])
    | (go_at_call 17; refine (Read_no w3 p m pv D o.sec HD3.out hd hh).mono ?_; rintro e w4 ⟨rfl, rfl⟩; have hF4 := Fr.refl Non w3; have HF4 := Lib.hid hF4; have HB4 := Lib.hid (hF4.keep HB.out (fun h => h)); have HZ4 := Lib.hid (hF4.keep HZ.out (fun h => h)); have q1 := cellOf (hF4.keep HO.out (fun h => h)) 1 rfl; have HR4 := Lib.hid ((HR.out.non HF3.out).non hF4); clear hF4)
    | (guard_target =~ wpList _ _ _ (⟨_, Op.load 45 _, _, _, _, _⟩ :: _) _ w3; refine wl rfl (r_load (b := w.heap.size) (i := 0) rfl rfl (rangeAt_of HB4.out 0 (refL dv wv D) (by simp)) Try.underlying45 rfl (by rw [sz45]; rfl)) ?_)
    | (go_at_call 48; refine (RRead_no w3 dv wv D o.sec hD HR4.out hd hh).mono ?_; rintro e w5 ⟨rfl, hF5⟩; have HF5 := Lib.hid hF5; have HB5 := Lib.hid (hF5.keep HB4.out (fun h => h)); have HX := Lib.hid (read_fin H.out HR.out ((HF3.out.trans HF4.out (fun _ _ h => h)).trans hF5 (fun _ _ h => h)) (hF5.keep HZ4.out (fun h => h)) (by have := HSZ.out; omega)); clear hF5; skip)
    | (guard_target =~ wpList _ _ _ (⟨_, Op.load 45 _, _, _, _, _⟩ :: _) _ w5; refine wl rfl (r_load (b := w.heap.size) (i := 0) rfl rfl (rangeAt_of HB5.out 0 (refL dv wv D) (by simp)) Try.underlying45 rfl (by rw [sz45]; rfl)) ?_)
    | (guard_target =~ wpList _ _ _ (⟨_, Op.store 45 _ _, _, _, _, _⟩ :: _) _ w5; refine wu rfl (r_store (b := w2.heap.size) (i := 0) (cs := refL dv wv D) rfl rfl rfl HX.out.1 (by rw [sz45]; rfl) (refL_one HR.out _)) ?_; generalize w5.setCells w2.heap.size 0 (refL dv wv D) = W6 at *)
    | (guard_target =~ wpList _ _ _ (⟨_, Op.convert 30 9 _, _, _, _, _⟩ :: _) _ _; refine wl rfl (r_convert (u := .slice none 0 0) rfl rfl (run_str Try.underlying30 Try.underlying5 Try.underlying9 (BytesAt.nil w5))) ?_)
    | fail)
  refine bodyPost_ret (results_cell_tmp rfl _ _ w2.heap.size 45 _ (0, 0) _ _ rfl HX.out.2.1 rfl Try.underlying45 rfl (by rw [sz45]; rfl)) rfl ⟨dv, wv, rfl, HX.out.2.2.1, HX.out.2.2.2⟩

set_option maxRecDepth 100000 in
set_option maxHeartbeats 1000000 in
theorem Do_read_ok (w : World) (p m : Nat) (pv dv wv : Value) (D : Dsk) (o : OpS) (ca : Option Addr) (cl cc : Nat) (hd : D.down = false) (hh : D.has o.sec = true) (hD : Dok D) (hl : D.pend.length ≤ 49999) (h : DiskAt w p m pv D) (hr : RefAt w dv wv D) (hk : o.kind = 2) :
    Calls Try.prog 29 #[.pointer (some ⟨p, 0, none⟩), .agg (refL dv wv D).toArray, .agg (opL o (.slice ca cl cc)).toArray] w fun e w' => DoTo w w' p m pv e D := by
  obtain ⟨w1, w2, w3, hw1, hw2, hw3, hs1, hs2, hs3, hb, ho, hz, hF3⟩ := box3 w (refL dv wv D).toArray (opL o (.slice ca cl cc)).toArray
  have e0 : w3.cell? ⟨w1.heap.size, 0, none⟩ = some (.int .i64 2) := by rw [← hk]; exact cellOf ho 0 rfl
  have e1 : w3.cell? ⟨w1.heap.size, 1, none⟩ = some (.int .i64 o.sec) := cellOf ho 1 rfl
  have hd3 : DiskAt w3 p m pv D := h.fr hF3 (fun _ _ h => h)
  have H := Lib.hid h
  have HR := Lib.hid hr
  have HB := Lib.hid hb
  have HO := Lib.hid ho
  have HZ := Lib.hid hz
  have HF3 := Lib.hid hF3
  have HD3 := Lib.hid hd3
  have HSZ := Lib.hid (And.intro hs1 (And.intro hs2 hs3))
  clear h hr hb ho hz hF3 hd3 hs1 hs2 hs3 hk
  go_enter Try.func29, Try.ntmps29
  go_wp2_with (first
    | (guard_target =~ wpList _ _ _ (⟨_, Op.box 45 _, _, _, _, _⟩ :: _) _ _; refine wl rfl (r_boxA rfl rfl) ?_; rw [hw1])
    | (guard_target =~ wpList _ _ _ (⟨_, Op.box 60 _, _, _, _, _⟩ :: _) _ _; refine wl rfl (r_boxA rfl rfl) ?_; rw [hw2])
    | (guard_target =~ wpList _ _ _ (⟨_, Op.alloc 45, _, _, _, _⟩ :: _) _ _; refine wl rfl (r_allocA rfl (zero45 _)) ?_; rw [hw3])
    | (go_at_call 17; refine (Read_ok w3 p m pv D o.sec HD3.out hd hh (by omega)).mono ?_; rintro e w4 ⟨g4, rfl, hg4, -, hF4⟩; have HG4 := Lib.hid hg4; clear hg4; have HF4 := Lib.hid hF4; have HB4 := Lib.hid (hF4.keep HB.out (fun h => h)); have HZ4 := Lib.hid (hF4.keep HZ.out (fun h => h)); have q1 := cellOf (hF4.keep HO.out (fun h => h)) 1 rfl; have HR4 := Lib.hid ((HR.out.non HF3.out).non hF4); clear hF4)
    | (guard_target =~ wpList _ _ _ (⟨_, Op.load 45 _, _, _, _, _⟩ :: _) _ w4; refine wl rfl (r_load (b := w.heap.size) (i := 0) rfl rfl (rangeAt_of HB4.out 0 (refL dv wv D) (by simp)) Try.underlying45 rfl (by rw [sz45]; rfl)) ?_)
    | (go_at_call 48; refine (RRead_ok w4 dv wv D o.sec hD HR4.out hd hh).mono ?_; rintro e w5 ⟨g5, cap5, rfl, ho5, hF5, -⟩; have HBA := Lib.hid (BytesAt.of_block (hF5.keep HG4.out (fun h => h)) 256 256 (D.see o.sec).2.symm); have HBB := Lib.hid (OwnB.bytes' ho5 (D.see o.sec).2); clear ho5; have HF5 := Lib.hid hF5; have HB5 := Lib.hid (hF5.keep HB4.out (fun h => h)); have HX := Lib.hid (read_fin H.out HR.out ((HF3.out.trans HF4.out (fun _ _ h => h)).trans hF5 (fun _ _ h => h)) (hF5.keep HZ4.out (fun h => h)) (by have := HSZ.out; omega)); clear hF5; skip)
    | (guard_target =~ wpList _ _ _ (⟨_, Op.load 45 _, _, _, _, _⟩ :: _) _ w5; refine wl rfl (r_load (b := w.heap.size) (i := 0) rfl rfl (rangeAt_of HB5.out 0 (refL dv wv D) (by simp)) Try.underlying45 rfl (by rw [sz45]; rfl)) ?_)
    | (guard_target =~ wpList _ _ _ (⟨_, Op.store 45 _ _, _, _, _, _⟩ :: _) _ w5; refine wu rfl (r_store (b := w2.heap.size) (i := 0) (cs := refL dv wv D) rfl rfl rfl HX.out.1 (by rw [sz45]; rfl) (refL_one HR.out _)) ?_; generalize w5.setCells w2.heap.size 0 (refL dv wv D) = W6 at *)
    | (guard_target =~ wpList _ _ _ (⟨_, Op.convert 30 9 (Operand.tmp 66), _, _, _, _⟩ :: _) _ _; refine wl rfl (r_convert (u := .slice (some ⟨g4, 0, none⟩) 256 256) rfl rfl (run_str Try.underlying30 Try.underlying5 Try.underlying9 HBA.out)) ?_)
    | (guard_target =~ wpList _ _ _ (⟨_, Op.convert 30 9 (Operand.tmp 68), _, _, _, _⟩ :: _) _ _; refine wl rfl (r_convert (u := .slice (some ⟨g5, 0, none⟩) 256 cap5) rfl rfl (run_str Try.underlying30 Try.underlying5 Try.underlying9 HBB.out)) ?_)
    | fail)
  refine bodyPost_ret (results_cell_tmp rfl _ _ w2.heap.size 45 _ (0, 0) _ _ rfl HX.out.2.1 rfl Try.underlying45 rfl (by rw [sz45]; rfl)) rfl ⟨dv, wv, rfl, HX.out.2.2.1, HX.out.2.2.2⟩

end Go.Proofs.Yticgkbpmaakkiaa

namespace Go.Proofs.Yticgkbpmaakkiaa
open Go.RowKit

def OpS.bytes (o : OpS) : Sec := ⟨bytesL o.first o.step, bytesL_length _ _⟩

set_option maxRecDepth 100000 in
set_option maxHeartbeats 1000000 in
theorem Do_write (w : World) (p m : Nat) (pv dv wv : Value) (D : Dsk) (o : OpS) (ca : Option Addr) (cl cc : Nat) (hD : Dok D) (hl : D.pend.length ≤ 49999) (h : DiskAt w p m pv D) (hr : RefAt w dv wv D) (hk : o.kind = 0) :
    Calls Try.prog 29 #[.pointer (some ⟨p, 0, none⟩), .agg (refL dv wv D).toArray, .agg (opL o (.slice ca cl cc)).toArray] w fun e w' => DoTo w w' p m pv e (D.wr o.sec o.bytes).1 := by
  obtain ⟨w1, w2, w3, hw1, hw2, hw3, hs1, hs2, hs3, hb, ho, hz, hF3⟩ := box3 w (refL dv wv D).toArray (opL o (.slice ca cl cc)).toArray
  have e0 : w3.cell? ⟨w1.heap.size, 0, none⟩ = some (.int .i64 0) := by rw [← hk]; exact cellOf ho 0 rfl
  have e1 : w3.cell? ⟨w1.heap.size, 1, none⟩ = some (.int .i64 o.sec) := cellOf ho 1 rfl
  have e3 : w3.cell? ⟨w1.heap.size, 3, none⟩ = some (.int .u8 o.first.toNat) := cellOf ho 3 rfl
  have e4 : w3.cell? ⟨w1.heap.size, 4, none⟩ = some (.int .u8 o.step.toNat) := cellOf ho 4 rfl
  have hd3 : DiskAt w3 p m pv D := h.fr hF3 (fun _ _ h => h)
  have H := Lib.hid h
  have HR := Lib.hid hr
  have HB := Lib.hid hb
  have HO := Lib.hid ho
  have HZ := Lib.hid hz
  have HF3 := Lib.hid hF3
  have HD3 := Lib.hid hd3
  have HSZ := Lib.hid (And.intro hs1 (And.intro hs2 hs3))
  clear h hr hb ho hz hF3 hd3 hs1 hs2 hs3 hk
  go_enter Try.func29, Try.ntmps29
  go_wp2_with (first
    | (guard_target =~ wpList _ _ _ (⟨_, Op.box 45 _, _, _, _, _⟩ :: _) _ _; refine wl rfl (r_boxA rfl rfl) ?_; rw [hw1])
    | (guard_target =~ wpList _ _ _ (⟨_, Op.box 60 _, _, _, _, _⟩ :: _) _ _; refine wl rfl (r_boxA rfl rfl) ?_; rw [hw2])
    | (guard_target =~ wpList _ _ _ (⟨_, Op.alloc 45, _, _, _, _⟩ :: _) _ _; refine wl rfl (r_allocA rfl (zero45 _)) ?_; rw [hw3])
    | fail)
  have hS0 : ∀ W, Fr Non w3 W → W.cell? ⟨w1.heap.size, 1, none⟩ = some (.int .i64 o.sec) ∧ W.cell? ⟨w1.heap.size, 3, none⟩ = some (.int .u8 o.first.toNat) ∧ W.cell? ⟨w1.heap.size, 4, none⟩ = some (.int .u8 o.step.toNat) := fun W hW => ⟨hW.cell e1 (fun h => h), hW.cell e3 (fun h => h), hW.cell e4 (fun h => h)⟩
  have HS := Lib.hid hS0
  clear hS0 e1 e3 e4
  refine rc (fun W => W.cell? ⟨w1.heap.size, 1, none⟩ = some (.int .i64 o.sec) ∧ W.cell? ⟨w1.heap.size, 3, none⟩ = some (.int .u8 o.first.toNat) ∧ W.cell? ⟨w1.heap.size, 4, none⟩ = some (.int .u8 o.step.toNat)) 8 (by kernel_rfl) ?_
  have hS := HS.out w3.drew ((Fr.refl _ _).drew)
  refine tc (i := 0) (v := .pointer (some ⟨p, 0, none⟩)) rfl 8 (by kernel_rfl) (fun _ _ _ h => h) rfl (fun W0 hw => r_move rfl rfl) hS ?_
  simp only [Act.put, List.setIfInBounds_toArray, List.set_cons_zero, List.set_cons_succ]
  refine tc (i := 1) (v := .pointer (some ⟨w1.heap.size, 1, none⟩)) rfl 8 (by kernel_rfl) (fun _ _ _ h => h) rfl (fun W0 hw => by obtain ⟨hw0, hw1, hw2⟩ := hw; unfold RunV; go_simp) hS ?_
  simp only [Act.put, List.setIfInBounds_toArray, List.set_cons_zero, List.set_cons_succ]
  refine tc (i := 2) (v := .int .i64 o.sec) rfl 8 (by kernel_rfl) (fun _ _ _ h => h) rfl (fun W0 hw => by obtain ⟨hw0, hw1, hw2⟩ := hw; unfold RunV; go_simp) hS ?_
  simp only [Act.put, List.setIfInBounds_toArray, List.set_cons_zero, List.set_cons_succ]
  refine tc (i := 3) (v := .pointer (some ⟨w1.heap.size, 3, none⟩)) rfl 8 (by kernel_rfl) (fun _ _ _ h => h) rfl (fun W0 hw => by obtain ⟨hw0, hw1, hw2⟩ := hw; unfold RunV; go_simp) hS ?_
  simp only [Act.put, List.setIfInBounds_toArray, List.set_cons_zero, List.set_cons_succ]
  refine tc (i := 4) (v := .int .u8 o.first.toNat) rfl 8 (by kernel_rfl) (fun _ _ _ h => h) rfl (fun W0 hw => by obtain ⟨hw0, hw1, hw2⟩ := hw; unfold RunV; go_simp) hS ?_
  simp only [Act.put, List.setIfInBounds_toArray, List.set_cons_zero, List.set_cons_succ]
  refine tc (i := 5) (v := .pointer (some ⟨w1.heap.size, 4, none⟩)) rfl 8 (by kernel_rfl) (fun _ _ _ h => h) rfl (fun W0 hw => by obtain ⟨hw0, hw1, hw2⟩ := hw; unfold RunV; go_simp) hS ?_
  simp only [Act.put, List.setIfInBounds_toArray, List.set_cons_zero, List.set_cons_succ]
  refine tc (i := 6) (v := .int .u8 o.step.toNat) rfl 8 (by kernel_rfl) (fun _ _ _ h => h) rfl (fun W0 hw => by obtain ⟨hw0, hw1, hw2⟩ := hw; unfold RunV; go_simp) hS ?_
  simp only [Act.put, List.setIfInBounds_toArray, List.set_cons_zero, List.set_cons_succ]
  clear hS
  refine oc1 (i := 7) rfl (by kernel_rfl) rfl ?_
  unfold Oper.wp
  go_simp
  refine (Bytes_c w3.drew o.first o.step).mono ?_
  rintro e wB ⟨rfl, hgB, hFB⟩
  have hFB3 : Fr Non w3 wB := (Fr.refl Non w3).drew.trans hFB (fun _ _ h => h)
  refine ⟨HS.out wB hFB3, ?_⟩
  refine oc1 (i := 8) rfl (by kernel_rfl) rfl ?_
  unfold Oper.wp
  go_simp
  have hdB : DiskAt wB p m pv D := HD3.out.fr hFB3 (fun _ _ h => h)
  refine (Write_all wB p m pv D o.sec w3.heap.size 0 256 o.bytes hdB (by omega) (BytesAt.of_block hgB 256 256 o.bytes.2.symm) ⟨by have := HD3.out.plt; omega, fun h => by have := (HD3.out.vlt h).1; omega⟩).mono ?_
  rintro e w4 ⟨rfl, hS4⟩
  refine oc2 (i := 9) (v := .int .i64 (D.wr o.sec o.bytes).2) rfl (by kernel_rfl) rfl (by kernel_rfl) (r_assign rfl rfl) ?_
  simp only [Act.put, List.setIfInBounds_toArray, List.set_cons_zero, List.set_cons_succ]
  refine dc (by kernel_rfl) ?_
  have hFo : Fr (Foot p m pv) w3 w4 := ((hFB3.mono (fun _ _ h => h.elim) : Fr (Foot p m pv) w3 wB)).trans hS4.choose_spec.2.1 (fun _ _ h => h)
  have hS34 : Step w3 w4 p m pv (D.wr o.sec o.bytes).1 := by
    obtain ⟨pv', a1, a2, a3⟩ := hS4
    exact ⟨pv', a1, hFo, fun k hk => (a3 k hk).imp id (fun h => Nat.le_trans hFB3.size h)⟩
  have hnf : ∀ k, w.heap.size ≤ k → ¬ Foot p m pv k := fun k hk hf => (by have := foot_lt H.out hf; omega)
  have HB4 := Lib.hid (hFo.keep HB.out (hnf _ (Nat.le_refl _)))
  have HO4 := Lib.hid (hFo.keep HO.out (hnf _ (by have := HSZ.out; omega)))
  have HZ4 := Lib.hid (hFo.keep HZ.out (hnf _ (by have := HSZ.out; omega)))
  have HR4 := Lib.hid ((HR.out.non HF3.out).fr hFo HD3.out.apart)
  have HS4 := Lib.hid hS34
  have hT0 : ∀ W, Fr Non w4 W → W.cell? ⟨w1.heap.size, 1, none⟩ = some (.int .i64 o.sec) ∧ W.cell? ⟨w1.heap.size, 3, none⟩ = some (.int .u8 o.first.toNat) ∧ W.cell? ⟨w1.heap.size, 4, none⟩ = some (.int .u8 o.step.toNat) ∧ W.rangeAt w.heap.size 0 (refL dv wv D) := fun W hW =>
    ⟨hW.cell (cellOf HO4.out 1 rfl) (fun h => h), hW.cell (cellOf HO4.out 3 rfl) (fun h => h), hW.cell (cellOf HO4.out 4 rfl) (fun h => h), rangeAt_of (hW.keep HB4.out (fun h => h)) 0 _ (by simp)⟩
  have HT := Lib.hid hT0
  clear hgB hFB hFB3 hdB hS4 hFo hS34 hnf hT0
  go_wp2_with fail
  refine rc (fun W => W.cell? ⟨w1.heap.size, 1, none⟩ = some (.int .i64 o.sec) ∧ W.cell? ⟨w1.heap.size, 3, none⟩ = some (.int .u8 o.first.toNat) ∧ W.cell? ⟨w1.heap.size, 4, none⟩ = some (.int .u8 o.step.toNat) ∧ W.rangeAt w.heap.size 0 (refL dv wv D)) 8 (by kernel_rfl) ?_
  have hS := HT.out w4.drew ((Fr.refl _ _).drew)
  refine tc (i := 0) (v := .agg (refL dv wv D).toArray) rfl 8 (by kernel_rfl) (fun _ _ _ h => h) rfl (fun W0 hw => r_load (b := w.heap.size) (i := 0) rfl rfl hw.2.2.2 Try.underlying45 rfl (by rw [sz45]; rfl)) hS ?_
  simp only [Act.put, List.setIfInBounds_toArray, List.set_cons_zero, List.set_cons_succ]
  refine tc (i := 1) (v := .pointer (some ⟨w1.heap.size, 1, none⟩)) rfl 8 (by kernel_rfl) (fun _ _ _ h => h) rfl (fun W0 hw => by obtain ⟨hw0, hw1, hw2, _⟩ := hw; unfold RunV; go_simp) hS ?_
  simp only [Act.put, List.setIfInBounds_toArray, List.set_cons_zero, List.set_cons_succ]
  refine tc (i := 2) (v := .int .i64 o.sec) rfl 8 (by kernel_rfl) (fun _ _ _ h => h) rfl (fun W0 hw => by obtain ⟨hw0, hw1, hw2, _⟩ := hw; unfold RunV; go_simp) hS ?_
  simp only [Act.put, List.setIfInBounds_toArray, List.set_cons_zero, List.set_cons_succ]
  refine tc (i := 3) (v := .pointer (some ⟨w1.heap.size, 3, none⟩)) rfl 8 (by kernel_rfl) (fun _ _ _ h => h) rfl (fun W0 hw => by obtain ⟨hw0, hw1, hw2, _⟩ := hw; unfold RunV; go_simp) hS ?_
  simp only [Act.put, List.setIfInBounds_toArray, List.set_cons_zero, List.set_cons_succ]
  refine tc (i := 4) (v := .int .u8 o.first.toNat) rfl 8 (by kernel_rfl) (fun _ _ _ h => h) rfl (fun W0 hw => by obtain ⟨hw0, hw1, hw2, _⟩ := hw; unfold RunV; go_simp) hS ?_
  simp only [Act.put, List.setIfInBounds_toArray, List.set_cons_zero, List.set_cons_succ]
  refine tc (i := 5) (v := .pointer (some ⟨w1.heap.size, 4, none⟩)) rfl 8 (by kernel_rfl) (fun _ _ _ h => h) rfl (fun W0 hw => by obtain ⟨hw0, hw1, hw2, _⟩ := hw; unfold RunV; go_simp) hS ?_
  simp only [Act.put, List.setIfInBounds_toArray, List.set_cons_zero, List.set_cons_succ]
  refine tc (i := 6) (v := .int .u8 o.step.toNat) rfl 8 (by kernel_rfl) (fun _ _ _ h => h) rfl (fun W0 hw => by obtain ⟨hw0, hw1, hw2, _⟩ := hw; unfold RunV; go_simp) hS ?_
  simp only [Act.put, List.setIfInBounds_toArray, List.set_cons_zero, List.set_cons_succ]
  clear hS
  refine oc1 (i := 7) rfl (by kernel_rfl) rfl ?_
  unfold Oper.wp
  go_simp
  refine (Bytes_c w4.drew o.first o.step).mono ?_
  rintro e wC ⟨rfl, hgC, hFC⟩
  have hFC4 : Fr Non w4 wC := (Fr.refl Non w4).drew.trans hFC (fun _ _ h => h)
  refine ⟨HT.out wC hFC4, ?_⟩
  refine oc1 (i := 8) rfl (by kernel_rfl) rfl ?_
  unfold Oper.wp
  go_simp
  refine (RWrite_all wC dv wv D o.sec w4.heap.size 0 256 o.bytes hD (HR4.out.non hFC4) hl (BytesAt.of_block hgC 256 256 o.bytes.2.symm)).mono ?_
  rintro e w5 ⟨dv5, wv5, rfl, hR5, hF5⟩
  have hF45 : Fr Non w4 w5 := hFC4.trans hF5 (fun _ _ h => h)
  have HR5 := Lib.hid hR5
  have HX := Lib.hid (do_fin H.out HF3.out HS4.out hF45 hR5 (hF45.keep HB4.out (fun h => h)) (hF45.keep HZ4.out (fun h => h)) (by have := HSZ.out; omega) rfl rfl (by omega) (by have := HSZ.out; omega) (by have := HSZ.out; omega) (by have := HSZ.out; omega))
  clear hgC hFC hFC4 hF45 hR5 hF5
  refine oc2 (i := 9) (v := .tuple #[.agg (refL dv5 wv5 (D.wr o.sec o.bytes).1).toArray, .int .i64 (D.wr o.sec o.bytes).2]) rfl (by kernel_rfl) rfl (by kernel_rfl) (r_move rfl rfl) ?_
  simp only [Act.put, List.setIfInBounds_toArray, List.set_cons_zero, List.set_cons_succ]
  refine sw (fun _ => True) 13 (by kernel_rfl) ?_
  refine tc (i := 10) (v := .agg (refL dv5 wv5 (D.wr o.sec o.bytes).1).toArray) rfl 8 (by kernel_rfl) (fun _ _ _ h => h) rfl (fun W0 hw => by unfold RunV; go_simp) trivial ?_
  simp only [Act.put, List.setIfInBounds_toArray, List.set_cons_zero, List.set_cons_succ]
  refine tc (i := 11) (v := .int .i64 (D.wr o.sec o.bytes).2) rfl 8 (by kernel_rfl) (fun _ _ _ h => h) rfl (fun W0 hw => by unfold RunV; go_simp) trivial ?_
  simp only [Act.put, List.setIfInBounds_toArray, List.set_cons_zero, List.set_cons_succ]
  refine oc3u (i := 12) (w' := w5.setCells w.heap.size 0 (refL dv5 wv5 (D.wr o.sec o.bytes).1)) rfl (by kernel_rfl) rfl trivial (r_store (b := w.heap.size) (i := 0) (cs := refL dv5 wv5 (D.wr o.sec o.bytes).1) rfl rfl rfl HX.out.1.1 (by rw [sz45]; rfl) (refL_one HR5.out _)) ?_
  refine oc2 (i := 13) (v := .int .i64 (D.wr o.sec o.bytes).2) rfl (by kernel_rfl) rfl (by kernel_rfl) (r_assign rfl rfl) ?_
  simp only [Act.put, List.setIfInBounds_toArray, List.set_cons_zero, List.set_cons_succ]
  refine dc (by kernel_rfl) ?_
  generalize w5.setCells w.heap.size 0 (refL dv5 wv5 (D.wr o.sec o.bytes).1) = W5 at *
  go_wp2_with (first
    | (guard_target =~ wpList _ _ _ (⟨_, Op.load 45 _, _, _, _, _⟩ :: _) _ W5; refine wl rfl (r_load (b := w.heap.size) (i := 0) rfl rfl HX.out.1.2.1 Try.underlying45 rfl (by rw [sz45]; rfl)) ?_)
    | (guard_target =~ wpList _ _ _ (⟨_, Op.store 45 _ _, _, _, _, _⟩ :: _) _ W5; refine wu rfl (r_store (b := w2.heap.size) (i := 0) (cs := refL dv5 wv5 (D.wr o.sec o.bytes).1) rfl rfl rfl HX.out.1.2.2.1 (by rw [sz45]; rfl) (refL_one HR5.out _)) ?_; generalize W5.setCells w2.heap.size 0 (refL dv5 wv5 (D.wr o.sec o.bytes).1) = W6 at *)
    | fail)
  refine bodyPost_ret (results_cell_tmp rfl _ _ w2.heap.size 45 _ (0, 0) _ _ rfl HX.out.1.2.2.2 rfl Try.underlying45 rfl (by rw [sz45]; rfl)) rfl ⟨dv5, wv5, rfl, HX.out.2.1, HX.out.2.2⟩
end Go.Proofs.Yticgkbpmaakkiaa
