/-
  Do: Read.
-/
import Derived.Test.YticgkbpmaakkiaaDkUq
namespace Go.Proofs.Yticgkbpmaakkiaa
open Go.RowKit

theorem OwnB.bytes' {w : World} {g cap : Nat} {l : List UInt8} (h : OwnB w (.slice (some ⟨g, 0, none⟩) 256 cap) l) (_hl : l.length = 256) : BytesAt w (.slice (some ⟨g, 0, none⟩) 256 cap) l := OwnB.bytes h
theorem read_fin {w w5 : World} {p m : Nat} {pv : Value} {D : Dsk} {dv wv : Value} {br : Nat} (h0 : DiskAt w p m pv D) (hR : RefAt w dv wv D) (hF : Fr Non w w5) (hr : w5.heap[br]? = some (.cells zref 45)) (g1 : w.heap.size ≤ br) :
    w5.there br 0 5 ∧ (w5.setCells br 0 (refL dv wv D)).heap[br]? = some (.cells (refL dv wv D).toArray 45) ∧ Step w (w5.setCells br 0 (refL dv wv D)) p m pv D ∧ RefAt (w5.setCells br 0 (refL dv wv D)) dv wv D := by
  have x5 : Fr (· = br) w5 (w5.setCells br 0 (refL dv wv D)) := Fr.setCells (S := (· = br)) _ (fun _ => rfl) _ _ _ (Fr.refl _ _)
  have hA : Apart w5 (· = br) := by
    rintro k rfl cs
    rw [hr]; exact ⟨by simp, by simp, by simp⟩
  have hN : Fr Non w (w5.setCells br 0 (refL dv wv D)) := hF.trans x5 (fun i hi e => by exfalso; omega)
  exact ⟨there45 hr rfl, put45 hr rfl rfl, Step.refl h0 hN, (hR.non hF).fr x5 hA⟩

set_option maxRecDepth 100000 in
set_option maxHeartbeats 1000000 in
theorem Do_read_down (w : World) (p m : Nat) (pv dv wv : Value) (D : Dsk) (o : OpS) (ca : Option Addr) (cl cc : Nat) (hd : D.down = true) (hD : Dok D) (hl : D.pend.length ≤ 49999) (h : DiskAt w p m pv D) (hr : RefAt w dv wv D) (hk : o.kind = 2) :
    Calls Try.prog 29 #[.pointer (some ⟨p, 0, none⟩), .agg (refL dv wv D).toArray, .agg (opL o (.slice ca cl cc)).toArray] w fun e w' => DoTo w w' p m pv e D := by
  obtain ⟨w1, w2, w3, hw1, hw2, hw3, hs1, hs2, hs3, hb, ho, hz, hF3⟩ := box3 w (refL dv wv D).toArray (opL o (.slice ca cl cc)).toArray
  have e0 : w3.cell? ⟨w1.heap.size, 0, none⟩ = some (.int .i64 2) := by rw [← hk]; exact cellOf ho 0 rfl
  have e1 : w3.cell? ⟨w1.heap.size, 1, none⟩ = some (.int .i64 o.sec) := cellOf ho 1 rfl
  have hd3 : DiskAt w3 p m pv D := h.fr hF3 (fun _ _ h => h)
  have H := Lib.hid h
  have HR := Lib.hid hr
  have HB := Lib.hid hb
  have HO := Lib.hid ho
  have HZ := Lib.hid hz
  have HF3 := Lib.hid hF3
  have HD3 := Lib.hid hd3
  have HSZ := Lib.hid (And.intro hs1 (And.intro hs2 hs3))
  clear h hr hb ho hz hF3 hd3 hs1 hs2 hs3 hk
  go_enter Try.func29, Try.ntmps29
  go_wp2_with (first
    | (guard_target =~ wpList _ _ _ (⟨_, Op.box 45 _, _, _, _, _⟩ :: _) _ _; refine wl rfl (r_boxA rfl rfl) ?_; rw [hw1])
    | (guard_target =~ wpList _ _ _ (⟨_, Op.box 60 _, _, _, _, _⟩ :: _) _ _; refine wl rfl (r_boxA rfl rfl) ?_; rw [hw2])
    | (guard_target =~ wpList _ _ _ (⟨_, Op.alloc 45, _, _, _, _⟩ :: _) _ _; refine wl rfl (r_allocA rfl (zero45 _)) ?_; rw [hw3])
    | (go_at_call 17; refine (Read_down w3 p m pv D o.sec HD3.out hd).mono ?_; rintro e w4 ⟨rfl, rfl⟩; have hF4 := Fr.refl Non w3; have HF4 := Lib.hid hF4; have HB4 := Lib.hid (hF4.keep HB.out (fun h => h)); have HZ4 := Lib.hid (hF4.keep HZ.out (fun h => h)); have q1 := cellOf (hF4.keep HO.out (fun h => h)) 1 rfl; have HR4 := Lib.hid ((HR.out.non HF3.out).non hF4); clear hF4)
    | (guard_target =~ wpList _ _ _ (⟨_, Op.load 45 _, _, _, _, _⟩ :: _) _ w3; refine wl rfl (r_load (b := w.heap.size) (i := 0) rfl rfl (rangeAt_of HB4.out 0 (refL dv wv D) (by simp)) Try.underlying45 rfl (by rw [sz45]; rfl)) ?_)
    | (go_at_call 48; refine (RRead_down w3 dv wv D o.sec hd).mono ?_; rintro e w5 ⟨rfl, hF5⟩; have HF5 := Lib.hid hF5; have HB5 := Lib.hid (hF5.keep HB4.out (fun h => h)); have HX := Lib.hid (read_fin H.out HR.out ((HF3.out.trans HF4.out (fun _ _ h => h)).trans hF5 (fun _ _ h => h)) (hF5.keep HZ4.out (fun h => h)) (by have := HSZ.out; omega)); clear hF5; skip)
    | (guard_target =~ wpList _ _ _ (⟨_, Op.load 45 _, _, _, _, _⟩ :: _) _ w5; refine wl rfl (r_load (b := w.heap.size) (i := 0) rfl rfl (rangeAt_of HB5.out 0 (refL dv wv D) (by simp)) Try.underlying45 rfl (by rw [sz45]; rfl)) ?_)
    | (guard_target =~ wpList _ _ _ (⟨_, Op.store 45 _ _, _, _, _, _⟩ :: _) _ w5; refine wu rfl (r_store (b := w2.heap.size) (i := 0) (cs := refL dv wv D) rfl rfl rfl HX.out.1 (by rw [sz45]; rfl) (refL_one HR.out _)) ?_; generalize w5.setCells w2.heap.size 0 (refL dv wv D) = W6 at *)
    | (guard_target =~ wpList _ _ _ (⟨_, Op.convert 30 9 _, _, _, _, _⟩ :: _) _ _; refine wl rfl (r_convert (u := .slice none 0 0) rfl rfl (run_str Try.underlying30 Try.underlying5 Try.underlying9 (BytesAt.nil w5))) ?_)
    | fail)
  refine bodyPost_ret (results_cell_tmp rfl _ _ w2.heap.size 45 _ (0, 0) _ _ rfl HX.out.2.1 rfl Try.underlying45 rfl (by rw [sz45]; rfl)) rfl ⟨dv, wv, rfl, HX.out.2.2.1, HX.out.2.2.2⟩

set_option maxRecDepth 100000 in
set_option maxHeartbeats 1000000 in
theorem Do_read_no (w : World) (p m : Nat) (pv dv wv : Value) (D : Dsk) (o : OpS) (ca : Option Addr) (cl cc : Nat) (hd : D.down = false) (hh : D.has o.sec = false) (hD : Dok D) (hl : D.pend.length ≤ 49999) (h : DiskAt w p m pv D) (hr : RefAt w dv wv D) (hk : o.kind = 2) :
    Calls Try.prog 29 #[.pointer (some ⟨p, 0, none⟩), .agg (refL dv wv D).toArray, .agg (opL o (.slice ca cl cc)).toArray] w fun e w' => DoTo w w' p m pv e D := by
  obtain ⟨w1, w2, w3, hw1, hw2, hw3, hs1, hs2, hs3, hb, ho, hz, hF3⟩ := box3 w (refL dv wv D).toArray (opL o (.slice ca cl cc)).toArray
  have e0 : w3.cell? ⟨w1.heap.size, 0, none⟩ = some (.int .i64 2) := by rw [← hk]; exact cellOf ho 0 rfl
  have e1 : w3.cell? ⟨w1.heap.size, 1, none⟩ = some (.int .i64 o.sec) := cellOf ho 1 rfl
  have hd3 : DiskAt w3 p m pv D := h.fr hF3 (fun _ _ h => h)
  have H := Lib.hid h
  have HR := Lib.hid hr
  have HB := Lib.hid hb
  have HO := Lib.hid ho
  have HZ := Lib.hid hz
  have HF3 := Lib.hid hF3
  have HD3 := Lib.hid hd3
  have HSZ := Lib.hid (And.intro hs1 (And.intro hs2 hs3))
  clear h hr hb ho hz hF3 hd3 hs1 hs2 hs3 hk
  go_enter Try.func29, Try.ntmps29
  go_wp2_with (first
    | (guard_target =~ wpList _ _ _ (⟨_, Op.box 45 _, _, _, _, _⟩ :: _) _ _; refine wl rfl (r_boxA rfl rfl) ?_; rw [hw1])
    | (guard_target =~ wpList _ _ _ (⟨_, Op.box 60 _, _, _, _, _⟩ :: _) _ _; refine wl rfl (r_boxA rfl rfl) ?_; rw [hw2])
    | (guard_target =~ wpList _ _ _ (⟨_, Op.alloc 45, _, _, _, _⟩ :: _) _ _; refine wl rfl (r_allocA rfl (zero45 _)) ?_; rw [hw3])
    | (go_at_call 17; refine (Read_no w3 p m pv D o.sec HD3.out hd hh).mono ?_; rintro e w4 ⟨rfl, rfl⟩; have hF4 := Fr.refl Non w3; have HF4 := Lib.hid hF4; have HB4 := Lib.hid (hF4.keep HB.out (fun h => h)); have HZ4 := Lib.hid (hF4.keep HZ.out (fun h => h)); have q1 := cellOf (hF4.keep HO.out (fun h => h)) 1 rfl; have HR4 := Lib.hid ((HR.out.non HF3.out).non hF4); clear hF4)
    | (guard_target =~ wpList _ _ _ (⟨_, Op.load 45 _, _, _, _, _⟩ :: _) _ w3; refine wl rfl (r_load (b := w.heap.size) (i := 0) rfl rfl (rangeAt_of HB4.out 0 (refL dv wv D) (by simp)) Try.underlying45 rfl (by rw [sz45]; rfl)) ?_)
    | (go_at_call 48; refine (RRead_no w3 dv wv D o.sec hD HR4.out hd hh).mono ?_; rintro e w5 ⟨rfl, hF5⟩; have HF5 := Lib.hid hF5; have HB5 := Lib.hid (hF5.keep HB4.out (fun h => h)); have HX := Lib.hid (read_fin H.out HR.out ((HF3.out.trans HF4.out (fun _ _ h => h)).trans hF5 (fun _ _ h => h)) (hF5.keep HZ4.out (fun h => h)) (by have := HSZ.out; omega)); clear hF5; skip)
    | (guard_target =~ wpList _ _ _ (⟨_, Op.load 45 _, _, _, _, _⟩ :: _) _ w5; refine wl rfl (r_load (b := w.heap.size) (i := 0) rfl rfl (rangeAt_of HB5.out 0 (refL dv wv D) (by simp)) Try.underlying45 rfl (by rw [sz45]; rfl)) ?_)
    | (guard_target =~ wpList _ _ _ (⟨_, Op.store 45 _ _, _, _, _, _⟩ :: _) _ w5; refine wu rfl (r_store (b := w2.heap.size) (i := 0) (cs := refL dv wv D) rfl rfl rfl HX.out.1 (by rw [sz45]; rfl) (refL_one HR.out _)) ?_; generalize w5.setCells w2.heap.size 0 (refL dv wv D) = W6 at *)
    | (guard_target =~ wpList _ _ _ (⟨_, Op.convert 30 9 _, _, _, _, _⟩ :: _) _ _; refine wl rfl (r_convert (u := .slice none 0 0) rfl rfl (run_str Try.underlying30 Try.underlying5 Try.underlying9 (BytesAt.nil w5))) ?_)
    | fail)
  refine bodyPost_ret (results_cell_tmp rfl _ _ w2.heap.size 45 _ (0, 0) _ _ rfl HX.out.2.1 rfl Try.underlying45 rfl (by rw [sz45]; rfl)) rfl ⟨dv, wv, rfl, HX.out.2.2.1, HX.out.2.2.2⟩

set_option maxRecDepth 100000 in
set_option maxHeartbeats 1000000 in
theorem Do_read_ok (w : World) (p m : Nat) (pv dv wv : Value) (D : Dsk) (o : OpS) (ca : Option Addr) (cl cc : Nat) (hd : D.down = false) (hh : D.has o.sec = true) (hD : Dok D) (hl : D.pend.length ≤ 49999) (h : DiskAt w p m pv D) (hr : RefAt w dv wv D) (hk : o.kind = 2) :
    Calls Try.prog 29 #[.pointer (some ⟨p, 0, none⟩), .agg (refL dv wv D).toArray, .agg (opL o (.slice ca cl cc)).toArray] w fun e w' => DoTo w w' p m pv e D := by
  obtain ⟨w1, w2, w3, hw1, hw2, hw3, hs1, hs2, hs3, hb, ho, hz, hF3⟩ := box3 w (refL dv wv D).toArray (opL o (.slice ca cl cc)).toArray
  have e0 : w3.cell? ⟨w1.heap.size, 0, none⟩ = some (.int .i64 2) := by rw [← hk]; exact cellOf ho 0 rfl
  have e1 : w3.cell? ⟨w1.heap.size, 1, none⟩ = some (.int .i64 o.sec) := cellOf ho 1 rfl
  have hd3 : DiskAt w3 p m pv D := h.fr hF3 (fun _ _ h => h)
  have H := Lib.hid h
  have HR := Lib.hid hr
  have HB := Lib.hid hb
  have HO := Lib.hid ho
  have HZ := Lib.hid hz
  have HF3 := Lib.hid hF3
  have HD3 := Lib.hid hd3
  have HSZ := Lib.hid (And.intro hs1 (And.intro hs2 hs3))
  clear h hr hb ho hz hF3 hd3 hs1 hs2 hs3 hk
  go_enter Try.func29, Try.ntmps29
  go_wp2_with (first
    | (guard_target =~ wpList _ _ _ (⟨_, Op.box 45 _, _, _, _, _⟩ :: _) _ _; refine wl rfl (r_boxA rfl rfl) ?_; rw [hw1])
    | (guard_target =~ wpList _ _ _ (⟨_, Op.box 60 _, _, _, _, _⟩ :: _) _ _; refine wl rfl (r_boxA rfl rfl) ?_; rw [hw2])
    | (guard_target =~ wpList _ _ _ (⟨_, Op.alloc 45, _, _, _, _⟩ :: _) _ _; refine wl rfl (r_allocA rfl (zero45 _)) ?_; rw [hw3])
    | (go_at_call 17; refine (Read_ok w3 p m pv D o.sec HD3.out hd hh (by omega)).mono ?_; rintro e w4 ⟨g4, rfl, hg4, -, hF4⟩; have HG4 := Lib.hid hg4; clear hg4; have HF4 := Lib.hid hF4; have HB4 := Lib.hid (hF4.keep HB.out (fun h => h)); have HZ4 := Lib.hid (hF4.keep HZ.out (fun h => h)); have q1 := cellOf (hF4.keep HO.out (fun h => h)) 1 rfl; have HR4 := Lib.hid ((HR.out.non HF3.out).non hF4); clear hF4)
    | (guard_target =~ wpList _ _ _ (⟨_, Op.load 45 _, _, _, _, _⟩ :: _) _ w4; refine wl rfl (r_load (b := w.heap.size) (i := 0) rfl rfl (rangeAt_of HB4.out 0 (refL dv wv D) (by simp)) Try.underlying45 rfl (by rw [sz45]; rfl)) ?_)
    | (go_at_call 48; refine (RRead_ok w4 dv wv D o.sec hD HR4.out hd hh).mono ?_; rintro e w5 ⟨g5, cap5, rfl, ho5, hF5, -⟩; have HBA := Lib.hid (BytesAt.of_block (hF5.keep HG4.out (fun h => h)) 256 256 (D.see o.sec).2.symm); have HBB := Lib.hid (OwnB.bytes' ho5 (D.see o.sec).2); clear ho5; have HF5 := Lib.hid hF5; have HB5 := Lib.hid (hF5.keep HB4.out (fun h => h)); have HX := Lib.hid (read_fin H.out HR.out ((HF3.out.trans HF4.out (fun _ _ h => h)).trans hF5 (fun _ _ h => h)) (hF5.keep HZ4.out (fun h => h)) (by have := HSZ.out; omega)); clear hF5; skip)
    | (guard_target =~ wpList _ _ _ (⟨_, Op.load 45 _, _, _, _, _⟩ :: _) _ w5; refine wl rfl (r_load (b := w.heap.size) (i := 0) rfl rfl (rangeAt_of HB5.out 0 (refL dv wv D) (by simp)) Try.underlying45 rfl (by rw [sz45]; rfl)) ?_)
    | (guard_target =~ wpList _ _ _ (⟨_, Op.store 45 _ _, _, _, _, _⟩ :: _) _ w5; refine wu rfl (r_store (b := w2.heap.size) (i := 0) (cs := refL dv wv D) rfl rfl rfl HX.out.1 (by rw [sz45]; rfl) (refL_one HR.out _)) ?_; generalize w5.setCells w2.heap.size 0 (refL dv wv D) = W6 at *)
    | (guard_target =~ wpList _ _ _ (⟨_, Op.convert 30 9 (Operand.tmp 66), _, _, _, _⟩ :: _) _ _; refine wl rfl (r_convert (u := .slice (some ⟨g4, 0, none⟩) 256 256) rfl rfl (run_str Try.underlying30 Try.underlying5 Try.underlying9 HBA.out)) ?_)
    | (guard_target =~ wpList _ _ _ (⟨_, Op.convert 30 9 (Operand.tmp 68), _, _, _, _⟩ :: _) _ _; refine wl rfl (r_convert (u := .slice (some ⟨g5, 0, none⟩) 256 cap5) rfl rfl (run_str Try.underlying30 Try.underlying5 Try.underlying9 HBB.out)) ?_)
    | fail)
  refine bodyPost_ret (results_cell_tmp rfl _ _ w2.heap.size 45 _ (0, 0) _ _ rfl HX.out.2.1 rfl Try.underlying45 rfl (by rw [sz45]; rfl)) rfl ⟨dv, wv, rfl, HX.out.2.2.1, HX.out.2.2.2⟩

end Go.Proofs.Yticgkbpmaakkiaa
