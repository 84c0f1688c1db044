/-
  Do: at any operation.
-/
import Derived.Test.YticgkbpmaakkiaaDkX
namespace Go.Proofs.Yticgkbpmaakkiaa
open Go.RowKit

set_option maxRecDepth 100000 in
set_option maxHeartbeats 1000000 in
theorem Do_other (w : World) (p m : Nat) (pv dv wv : Value) (D : Dsk) (o : OpS) (ca : Option Addr) (cl cc : Nat) (hD : Dok D) (hl : D.pend.length ≤ 49999) (h : DiskAt w p m pv D) (hr : RefAt w dv wv D) (hk : ∀ i : Int, 0 ≤ i → i ≤ 7 → o.kind ≠ i) :
    Calls Try.prog 29 #[.pointer (some ⟨p, 0, none⟩), .agg (refL dv wv D).toArray, .agg (opL o (.slice ca cl cc)).toArray] w fun e w' => DoTo w w' p m pv e D := by
  obtain ⟨w1, w2, w3, hw1, hw2, hw3, hs1, hs2, hs3, hb, ho, hz, hF3⟩ := box3 w (refL dv wv D).toArray (opL o (.slice ca cl cc)).toArray
  have e0 : w3.cell? ⟨w1.heap.size, 0, none⟩ = some (.int .i64 o.kind) := cellOf ho 0 rfl
  have hd3 : DiskAt w3 p m pv D := h.fr hF3 (fun _ _ h => h)
  have H := Lib.hid h
  have HR := Lib.hid hr
  have HB := Lib.hid hb
  have HO := Lib.hid ho
  have HZ := Lib.hid hz
  have HF3 := Lib.hid hF3
  have HD3 := Lib.hid hd3
  have HSZ := Lib.hid (And.intro hs1 (And.intro hs2 hs3))
  have HKK := Lib.hid hk
  clear h hr hb ho hz hF3 hd3 hs1 hs2 hs3 hk
  have k0 : (o.kind == 0) = false := beq_eq_false_iff_ne.2 (HKK.out 0 (by omega) (by omega))
  have k1 : (o.kind == 1) = false := beq_eq_false_iff_ne.2 (HKK.out 1 (by omega) (by omega))
  have k2 : (o.kind == 2) = false := beq_eq_false_iff_ne.2 (HKK.out 2 (by omega) (by omega))
  have k3 : (o.kind == 3) = false := beq_eq_false_iff_ne.2 (HKK.out 3 (by omega) (by omega))
  have k4 : (o.kind == 4) = false := beq_eq_false_iff_ne.2 (HKK.out 4 (by omega) (by omega))
  have k5 : (o.kind == 5) = false := beq_eq_false_iff_ne.2 (HKK.out 5 (by omega) (by omega))
  have k6 : (o.kind == 6) = false := beq_eq_false_iff_ne.2 (HKK.out 6 (by omega) (by omega))
  have k7 : (o.kind == 7) = false := beq_eq_false_iff_ne.2 (HKK.out 7 (by omega) (by omega))
  have HX := Lib.hid (read_fin H.out HR.out HF3.out HZ.out (by have := HSZ.out; omega))
  go_enter Try.func29, Try.ntmps29
  go_wp2_with (first
    | (guard_target =~ wpList _ _ _ (⟨_, Op.box 45 _, _, _, _, _⟩ :: _) _ _; refine wl rfl (r_boxA rfl rfl) ?_; rw [hw1])
    | (guard_target =~ wpList _ _ _ (⟨_, Op.box 60 _, _, _, _, _⟩ :: _) _ _; refine wl rfl (r_boxA rfl rfl) ?_; rw [hw2])
    | (guard_target =~ wpList _ _ _ (⟨_, Op.alloc 45, _, _, _, _⟩ :: _) _ _; refine wl rfl (r_allocA rfl (zero45 _)) ?_; rw [hw3])
    | (guard_target =~ wpList _ _ _ (⟨_, Op.load 45 _, _, _, _, _⟩ :: _) _ w3; refine wl rfl (r_load (b := w.heap.size) (i := 0) rfl rfl (rangeAt_of HB.out 0 (refL dv wv D) (by simp)) Try.underlying45 rfl (by rw [sz45]; rfl)) ?_)
    | (guard_target =~ wpList _ _ _ (⟨_, Op.store 45 _ _, _, _, _, _⟩ :: _) _ w3; refine wu rfl (r_store (b := w2.heap.size) (i := 0) (cs := refL dv wv D) rfl rfl rfl HX.out.1 (by rw [sz45]; rfl) (refL_one HR.out _)) ?_; generalize w3.setCells w2.heap.size 0 (refL dv wv D) = W6 at *)
    | fail)
  refine bodyPost_ret (results_cell_tmp rfl _ _ w2.heap.size 45 _ (0, 0) _ _ rfl HX.out.2.1 rfl Try.underlying45 rfl (by rw [sz45]; rfl)) rfl ⟨dv, wv, rfl, HX.out.2.2.1, HX.out.2.2.2⟩
end Go.Proofs.Yticgkbpmaakkiaa
