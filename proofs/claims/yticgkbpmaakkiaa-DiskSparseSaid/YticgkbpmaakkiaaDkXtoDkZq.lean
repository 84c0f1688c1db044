/-
  Do: a write of another length.
  Do: at any operation.
  Do, one contract.
-/
import Derived.Test.YticgkbpmaakkiaaDkVtoDkWq

namespace Go.Proofs.Yticgkbpmaakkiaa
open Go.RowKit

set_option maxRecDepth 100000 in
set_option maxHeartbeats 1000000 in
theorem Do_wrong (w : World) (p m : Nat) (pv dv wv : Value) (D : Dsk) (o : OpS) (ca : Option Addr) (cl cc : Nat) (hD : Dok D) (hl : D.pend.length ≤ 49999) (h : DiskAt w p m pv D) (hr : RefAt w dv wv D) (hk : o.kind = 7) :
    Calls Try.prog 29 #[.pointer (some ⟨p, 0, none⟩), .agg (refL dv wv D).toArray, .agg (opL o (.slice ca cl cc)).toArray] w fun e w' => DoTo w w' p m pv e D := by
  obtain ⟨w1, w2, w3, hw1, hw2, hw3, hs1, hs2, hs3, hb, ho, hz, hF3⟩ := box3 w (refL dv wv D).toArray (opL o (.slice ca cl cc)).toArray
  have e0 : w3.cell? ⟨w1.heap.size, 0, none⟩ = some (.int .i64 7) := by rw [← hk]; exact cellOf ho 0 rfl
  have e1 : w3.cell? ⟨w1.heap.size, 1, none⟩ = some (.int .i64 o.sec) := cellOf ho 1 rfl
  have e3 : w3.cell? ⟨w1.heap.size, 3, none⟩ = some (.int .u8 o.first.toNat) := cellOf ho 3 rfl
  have e4 : w3.cell? ⟨w1.heap.size, 4, none⟩ = some (.int .u8 o.step.toNat) := cellOf ho 4 rfl
  have hd3 : DiskAt w3 p m pv D := h.fr hF3 (fun _ _ h => h)
  have H := Lib.hid h
  have HR := Lib.hid hr
  have HB := Lib.hid hb
  have HO := Lib.hid ho
  have HZ := Lib.hid hz
  have HF3 := Lib.hid hF3
  have HD3 := Lib.hid hd3
  have HSZ := Lib.hid (And.intro hs1 (And.intro hs2 hs3))
  clear h hr hb ho hz hF3 hd3 hs1 hs2 hs3 hk
  go_enter Try.func29, Try.ntmps29
  go_wp2_with (first
    | (guard_target =~ wpList _ _ _ (⟨_, Op.box 45 _, _, _, _, _⟩ :: _) _ _; refine wl rfl (r_boxA rfl rfl) ?_; rw [hw1])
    | (guard_target =~ wpList _ _ _ (⟨_, Op.box 60 _, _, _, _, _⟩ :: _) _ _; refine wl rfl (r_boxA rfl rfl) ?_; rw [hw2])
    | (guard_target =~ wpList _ _ _ (⟨_, Op.alloc 45, _, _, _, _⟩ :: _) _ _; refine wl rfl (r_allocA rfl (zero45 _)) ?_; rw [hw3])
    | fail)
  have hS0 : ∀ W, Fr Non w3 W → W.cell? ⟨w1.heap.size, 3, none⟩ = some (.int .u8 o.first.toNat) ∧ W.cell? ⟨w1.heap.size, 4, none⟩ = some (.int .u8 o.step.toNat) := fun W hW => ⟨hW.cell e3 (fun h => h), hW.cell e4 (fun h => h)⟩
  have HS := Lib.hid hS0
  have hf256 : (o.first.toNat : Int) < 256 := by have := UInt8.toNat_lt o.first; omega
  have hfn : o.first.toNat < 256 := UInt8.toNat_lt o.first
  clear hS0 e1 e3 e4
  refine rc (fun W => W.cell? ⟨w1.heap.size, 3, none⟩ = some (.int .u8 o.first.toNat) ∧ W.cell? ⟨w1.heap.size, 4, none⟩ = some (.int .u8 o.step.toNat)) 8 (by kernel_rfl) ?_
  have hS := HS.out w3.drew ((Fr.refl _ _).drew)
  refine tc (i := 0) (v := .pointer (some ⟨w1.heap.size, 3, none⟩)) rfl 8 (by kernel_rfl) (fun _ _ _ h => h) rfl (fun W0 hw => by obtain ⟨hw0, hw1⟩ := hw; unfold RunV; go_simp) hS ?_
  simp only [Act.put, List.setIfInBounds_toArray, List.set_cons_zero, List.set_cons_succ]
  refine tc (i := 1) (v := .int .u8 o.first.toNat) rfl 8 (by kernel_rfl) (fun _ _ _ h => h) rfl (fun W0 hw => by obtain ⟨hw0, hw1⟩ := hw; unfold RunV; go_simp) hS ?_
  simp only [Act.put, List.setIfInBounds_toArray, List.set_cons_zero, List.set_cons_succ]
  refine tc (i := 2) (v := .pointer (some ⟨w1.heap.size, 4, none⟩)) rfl 8 (by kernel_rfl) (fun _ _ _ h => h) rfl (fun W0 hw => by obtain ⟨hw0, hw1⟩ := hw; unfold RunV; go_simp) hS ?_
  simp only [Act.put, List.setIfInBounds_toArray, List.set_cons_zero, List.set_cons_succ]
  refine tc (i := 3) (v := .int .u8 o.step.toNat) rfl 8 (by kernel_rfl) (fun _ _ _ h => h) rfl (fun W0 hw => by obtain ⟨hw0, hw1⟩ := hw; unfold RunV; go_simp) hS ?_
  simp only [Act.put, List.setIfInBounds_toArray, List.set_cons_zero, List.set_cons_succ]
  refine tc (i := 5) (v := .pointer (some ⟨w1.heap.size, 3, none⟩)) rfl 8 (by kernel_rfl) (fun _ _ _ h => h) rfl (fun W0 hw => by obtain ⟨hw0, hw1⟩ := hw; unfold RunV; go_simp) hS ?_
  simp only [Act.put, List.setIfInBounds_toArray, List.set_cons_zero, List.set_cons_succ]
  refine tc (i := 6) (v := .int .u8 o.first.toNat) rfl 8 (by kernel_rfl) (fun _ _ _ h => h) rfl (fun W0 hw => by obtain ⟨hw0, hw1⟩ := hw; unfold RunV; go_simp) hS ?_
  simp only [Act.put, List.setIfInBounds_toArray, List.set_cons_zero, List.set_cons_succ]
  refine tc (i := 7) (v := .int .i64 o.first.toNat) rfl 8 (by kernel_rfl) (fun _ _ _ h => h) rfl (fun W0 hw => by obtain ⟨hw0, hw1⟩ := hw; unfold RunV; go_simp; rw [IntKind.wrap_i64]; omega) hS ?_
  simp only [Act.put, List.setIfInBounds_toArray, List.set_cons_zero, List.set_cons_succ]
  clear hS
  refine oc1 (i := 4) rfl (by kernel_rfl) rfl ?_
  unfold Oper.wp
  go_simp
  refine (Bytes_c w3.drew o.first o.step).mono ?_
  rintro e wB ⟨rfl, hgB, hFB⟩
  have hFB3 : Fr Non w3 wB := (Fr.refl Non w3).drew.trans hFB (fun _ _ h => h)
  refine ⟨HS.out wB hFB3, ?_⟩
  refine oc2 (i := 8) (v := .slice (some ⟨w3.heap.size, 0, none⟩) o.first.toNat 256) (w' := wB) rfl (by kernel_rfl) rfl (by kernel_rfl) (by unfold RunV; go_simp; intro h; exfalso; omega) ?_
  simp only [Act.put, List.setIfInBounds_toArray, List.set_cons_zero, List.set_cons_succ]
  refine oc2 (i := 9) (v := .slice (some ⟨w3.heap.size, 0, none⟩) o.first.toNat 256) rfl (by kernel_rfl) rfl (by kernel_rfl) (r_assign rfl rfl) ?_
  simp only [Act.put, List.setIfInBounds_toArray, List.set_cons_zero, List.set_cons_succ]
  refine dc (by kernel_rfl) ?_
  have HBB := Lib.hid (hFB3.keep HB.out (fun h => h))
  have HZB := Lib.hid (hFB3.keep HZ.out (fun h => h))
  have q1 := cellOf (hFB3.keep HO.out (fun h => h)) 1 rfl
  have HDB := Lib.hid (HD3.out.fr hFB3 (fun _ _ h => h))
  have HRB := Lib.hid ((HR.out.non HF3.out).non hFB3)
  have HFB := Lib.hid hFB3
  clear hgB hFB hFB3
  go_wp2_with (first
    | (go_at_call 20; refine (Write_wrong wB p m pv D o.sec _ _ _ HDB.out (by omega)).mono ?_; rintro e w4 ⟨rfl, rfl⟩)
    | (guard_target =~ wpList _ _ _ (⟨_, Op.load 45 _, _, _, _, _⟩ :: _) _ wB; refine wl rfl (r_load (b := w.heap.size) (i := 0) rfl rfl (rangeAt_of HBB.out 0 (refL dv wv D) (by simp)) Try.underlying45 rfl (by rw [sz45]; rfl)) ?_)
    | (go_at_call 47; refine (RWrite_wrong wB dv wv D o.sec _ _ _ hD HRB.out (by omega)).mono ?_; rintro e w5 ⟨dv5, wv5, rfl, hR5, hF5⟩; have HR5 := Lib.hid hR5; have HX := Lib.hid (do_fin H.out HF3.out (Step.refl HD3.out HFB.out) hF5 hR5 (hF5.keep HBB.out (fun h => h)) (hF5.keep HZB.out (fun h => h)) (by have := HSZ.out; omega) rfl rfl (by omega) (by have := HSZ.out; omega) (by have := HSZ.out; omega) (by have := HSZ.out; omega)); clear hR5 hF5)
    | (guard_target =~ wpList _ _ _ (⟨_, Op.store 45 _ _, _, _, _, _⟩ :: _) _ w5; refine wu rfl (r_store (b := w.heap.size) (i := 0) (cs := refL dv5 wv5 D) rfl rfl rfl HX.out.1.1 (by rw [sz45]; rfl) (refL_one HR5.out _)) ?_; generalize w5.setCells w.heap.size 0 (refL dv5 wv5 D) = W5 at *)
    | (guard_target =~ wpList _ _ _ (⟨_, Op.load 45 _, _, _, _, _⟩ :: _) _ W5; refine wl rfl (r_load (b := w.heap.size) (i := 0) rfl rfl HX.out.1.2.1 Try.underlying45 rfl (by rw [sz45]; rfl)) ?_)
    | (guard_target =~ wpList _ _ _ (⟨_, Op.store 45 _ _, _, _, _, _⟩ :: _) _ W5; refine wu rfl (r_store (b := w2.heap.size) (i := 0) (cs := refL dv5 wv5 D) rfl rfl rfl HX.out.1.2.2.1 (by rw [sz45]; rfl) (refL_one HR5.out _)) ?_; generalize W5.setCells w2.heap.size 0 (refL dv5 wv5 D) = W6 at *)
    | fail)
  refine bodyPost_ret (results_cell_tmp rfl _ _ w2.heap.size 45 _ (0, 0) _ _ rfl HX.out.1.2.2.2 rfl Try.underlying45 rfl (by rw [sz45]; rfl)) rfl ⟨dv5, wv5, rfl, HX.out.2.1, HX.out.2.2⟩
end Go.Proofs.Yticgkbpmaakkiaa

namespace Go.Proofs.Yticgkbpmaakkiaa
open Go.RowKit

set_option maxRecDepth 100000 in
set_option maxHeartbeats 1000000 in
theorem Do_other (w : World) (p m : Nat) (pv dv wv : Value) (D : Dsk) (o : OpS) (ca : Option Addr) (cl cc : Nat) (hD : Dok D) (hl : D.pend.length ≤ 49999) (h : DiskAt w p m pv D) (hr : RefAt w dv wv D) (hk : ∀ i : Int, 0 ≤ i → i ≤ 7 → o.kind ≠ i) :
    Calls Try.prog 29 #[.pointer (some ⟨p, 0, none⟩), .agg (refL dv wv D).toArray, .agg (opL o (.slice ca cl cc)).toArray] w fun e w' => DoTo w w' p m pv e D := by
  obtain ⟨w1, w2, w3, hw1, hw2, hw3, hs1, hs2, hs3, hb, ho, hz, hF3⟩ := box3 w (refL dv wv D).toArray (opL o (.slice ca cl cc)).toArray
  have e0 : w3.cell? ⟨w1.heap.size, 0, none⟩ = some (.int .i64 o.kind) := cellOf ho 0 rfl
  have hd3 : DiskAt w3 p m pv D := h.fr hF3 (fun _ _ h => h)
  have H := Lib.hid h
  have HR := Lib.hid hr
  have HB := Lib.hid hb
  have HO := Lib.hid ho
  have HZ := Lib.hid hz
  have HF3 := Lib.hid hF3
  have HD3 := Lib.hid hd3
  have HSZ := Lib.hid (And.intro hs1 (And.intro hs2 hs3))
  have HKK := Lib.hid hk
  clear h hr hb ho hz hF3 hd3 hs1 hs2 hs3 hk
  have k0 : (o.kind == 0) = false := beq_eq_false_iff_ne.2 (HKK.out 0 (by omega) (by omega))
  have k1 : (o.kind == 1) = false := beq_eq_false_iff_ne.2 (HKK.out 1 (by omega) (by omega))
  have k2 : (o.kind == 2) = false := beq_eq_false_iff_ne.2 (HKK.out 2 (by omega) (by omega))
  have k3 : (o.kind == 3) = false := beq_eq_false_iff_ne.2 (HKK.out 3 (by omega) (by omega))
  have k4 : (o.kind == 4) = false := beq_eq_false_iff_ne.2 (HKK.out 4 (by omega) (by omega))
  have k5 : (o.kind == 5) = false := beq_eq_false_iff_ne.2 (HKK.out 5 (by omega) (by omega))
  have k6 : (o.kind == 6) = false := beq_eq_false_iff_ne.2 (HKK.out 6 (by omega) (by omega))
  have k7 : (o.kind == 7) = false := beq_eq_false_iff_ne.2 (HKK.out 7 (by omega) (by omega))
  have HX := Lib.hid (read_fin H.out HR.out HF3.out HZ.out (by have := HSZ.out; omega))
  go_enter Try.func29, Try.ntmps29
  go_wp2_with (first
    | (guard_target =~ wpList _ _ _ (⟨_, Op.box 45 _, _, _, _, _⟩ :: _) _ _; refine wl rfl (r_boxA rfl rfl) ?_; rw [hw1])
    | (guard_target =~ wpList _ _ _ (⟨_, Op.box 60 _, _, _, _, _⟩ :: _) _ _; refine wl rfl (r_boxA rfl rfl) ?_; rw [hw2])
    | (guard_target =~ wpList _ _ _ (⟨_, Op.alloc 45, _, _, _, _⟩ :: _) _ _; refine wl rfl (r_allocA rfl (zero45 _)) ?_; rw [hw3])
    | (guard_target =~ wpList _ _ _ (⟨_, Op.load 45 _, _, _, _, _⟩ :: _) _ w3; refine wl rfl (r_load (b := w.heap.size) (i := 0) rfl rfl (rangeAt_of HB.out 0 (refL dv wv D) (by simp)) Try.underlying45 rfl (by rw [sz45]; rfl)) ?_)
    | (guard_target =~ wpList _ _ _ (⟨_, Op.store 45 _ _, _, _, _, _⟩ :: _) _ w3; refine wu rfl (r_store (b := w2.heap.size) (i := 0) (cs := refL dv wv D) rfl rfl rfl HX.out.1 (by rw [sz45]; rfl) (refL_one HR.out _)) ?_; generalize w3.setCells w2.heap.size 0 (refL dv wv D) = W6 at *)
    | fail)
  refine bodyPost_ret (results_cell_tmp rfl _ _ w2.heap.size 45 _ (0, 0) _ _ rfl HX.out.2.1 rfl Try.underlying45 rfl (by rw [sz45]; rfl)) rfl ⟨dv, wv, rfl, HX.out.2.2.1, HX.out.2.2.2⟩
end Go.Proofs.Yticgkbpmaakkiaa

namespace Go.Proofs.Yticgkbpmaakkiaa
open Go.RowKit

def Dsk.act (D : Dsk) (o : OpS) (cs : List UInt8) : Dsk :=
  if o.kind = 0 then (D.wr o.sec o.bytes).1 else if o.kind = 1 then D.fl.1 else if o.kind = 3 then { D with down := true } else if o.kind = 4 then (D.re cs).1
  else if o.kind = 5 then D.setLimit o.at' else if o.kind = 6 then (D.da o.sec o.at' o.first).1 else D

theorem Do_c (w : World) (p m : Nat) (pv dv wv : Value) (D : Dsk) (o : OpS) (ca : Option Addr) (cl cc : Nat) (cs : List UInt8) (hcs : cs.length ≤ 9223372036854775807) (hbs : BytesAt w (.slice ca cl cc) cs) (hch : cs = [] ∨ ∀ k, (Value.slice ca cl cc).ownBlock = some k → ¬ Foot p m pv k)
    (hD : Dok D) (hl : D.pend.length ≤ 49999) (h : DiskAt w p m pv D) (hr : RefAt w dv wv D) :
    Calls Try.prog 29 #[.pointer (some ⟨p, 0, none⟩), .agg (refL dv wv D).toArray, .agg (opL o (.slice ca cl cc)).toArray] w fun e w' => DoTo w w' p m pv e (D.act o cs) := by
  unfold Dsk.act
  by_cases h0 : o.kind = 0
  · rw [if_pos h0]; exact Do_write w p m pv dv wv D o ca cl cc hD hl h hr h0
  rw [if_neg h0]
  by_cases h1 : o.kind = 1
  · rw [if_pos h1]; exact Do_flush w p m pv dv wv D o ca cl cc hD hl h hr h1
  rw [if_neg h1]
  by_cases h3 : o.kind = 3
  · rw [if_pos h3]; exact Do_fail w p m pv dv wv D o ca cl cc hD hl h hr h3
  rw [if_neg h3]
  by_cases h4 : o.kind = 4
  · rw [if_pos h4]; exact Do_restart w p m pv dv wv D o ca cl cc cs hcs hbs hch hD hl h hr h4
  rw [if_neg h4]
  by_cases h5 : o.kind = 5
  · rw [if_pos h5]; exact Do_limit w p m pv dv wv D o ca cl cc hD hl h hr h5
  rw [if_neg h5]
  by_cases h6 : o.kind = 6
  · rw [if_pos h6]; exact Do_damage w p m pv dv wv D o ca cl cc hD hl h hr h6
  rw [if_neg h6]
  by_cases h2 : o.kind = 2
  · by_cases hd : D.down = true
    · exact Do_read_down w p m pv dv wv D o ca cl cc hd hD hl h hr h2
    have hd' : D.down = false := by simpa using hd
    by_cases hh : D.has o.sec = true
    · exact Do_read_ok w p m pv dv wv D o ca cl cc hd' hh hD hl h hr h2
    · exact Do_read_no w p m pv dv wv D o ca cl cc hd' (by simpa using hh) hD hl h hr h2
  by_cases h7 : o.kind = 7
  · exact Do_wrong w p m pv dv wv D o ca cl cc hD hl h hr h7
  · exact Do_other w p m pv dv wv D o ca cl cc hD hl h hr (fun i hi hj e => by omega)

/-! ### what is kept -/
theorem count_ok {D : Dsk} (h : Dok D) (hs : D.spent = false) : ∀ hl : D.count.limited = true, 0 ≤ D.count.limit ∧ D.count.limit ≤ 9223372036854775807 := by
  intro hl
  have hl' : D.limited = true := hl
  have h1 := h.lim hl'
  unfold Dsk.spent at hs
  rw [hl'] at hs
  simp at hs
  show 0 ≤ wrap64 (D.limit - 1) ∧ wrap64 (D.limit - 1) ≤ _
  unfold wrap64
  omega

theorem act_ok (D : Dsk) (o : OpS) (cs : List UInt8) (h : Dok D) (hl : D.pend.length ≤ 49999) (ha : o.at' ≤ 9223372036854775807) : Dok (D.act o cs) ∧ (D.act o cs).pend.length ≤ D.pend.length + 1 ∧ (D.act o cs).n = D.n := by
  unfold Dsk.act
  split
  · unfold Dsk.wr
    split
    · exact ⟨h, by simp, rfl⟩
    split
    · exact ⟨h, by simp, rfl⟩
    rename_i hh
    split
    · exact ⟨⟨h.n0, h.n1, h.len, h.sec, h.lim⟩, by simp, rfl⟩
    · rename_i hs
      have hh' : 0 ≤ o.sec ∧ o.sec < D.n := by
        have : D.has o.sec = true := by simpa using hh
        unfold Dsk.has at this
        exact of_decide_eq_true this
      refine ⟨⟨h.n0, h.n1, by simp; omega, fun x hx => ?_, count_ok h (by simpa using hs)⟩, by simp, rfl⟩
      rcases List.mem_append.1 hx with hx | hx
      · exact h.sec x hx
      · rw [List.mem_singleton.1 hx]; exact hh'
  split
  · unfold Dsk.fl
    split
    · exact ⟨h, by simp, rfl⟩
    split
    · exact ⟨⟨h.n0, h.n1, h.len, h.sec, h.lim⟩, by simp, rfl⟩
    · rename_i hs
      obtain ⟨k1, k2, k3, k4, k5, k6⟩ := storeAll_keeps D.pend D.count
      exact ⟨⟨by show 1 ≤ _; rw [k2]; exact h.n0, by show _ ≤ (4096 : Int); rw [k2]; exact h.n1, Nat.zero_le _, (fun x hx => by cases hx), fun hq => by
        have hq' : (D.count.storeAll D.pend).limited = true := hq
        show 0 ≤ (D.count.storeAll D.pend).limit ∧ (D.count.storeAll D.pend).limit ≤ _
        rw [k5]; rw [k4] at hq'
        exact count_ok h (by simpa using hs) hq'⟩, Nat.zero_le _, k2⟩
  split
  · exact ⟨⟨h.n0, h.n1, h.len, h.sec, h.lim⟩, by simp, rfl⟩
  split
  · unfold Dsk.re
    split
    · exact ⟨h, by simp, rfl⟩
    · obtain ⟨k1, k2, k3, k4, k5, k6⟩ := restartTo_keeps D cs D.pend.length
      exact ⟨⟨by show 1 ≤ (D.restartTo cs D.pend.length).n; rw [k2]; exact h.n0, by show (D.restartTo cs D.pend.length).n ≤ _; rw [k2]; exact h.n1, Nat.zero_le _, (fun x hx => by cases hx), (fun hq => by cases hq)⟩, Nat.zero_le _, k2⟩
  split
  · refine ⟨⟨h.n0, h.n1, h.len, h.sec, fun hq => ?_⟩, by simp [Dsk.setLimit], rfl⟩
    show 0 ≤ max o.at' 0 ∧ max o.at' 0 ≤ _
    omega
  split
  · unfold Dsk.da
    split
    · exact ⟨h, by simp, rfl⟩
    split
    · exact ⟨h, by simp, rfl⟩
    · refine ⟨⟨h.n0, h.n1, by show (D.pend.map _).length ≤ _; rw [List.length_map]; exact h.len, fun x hx => ?_, h.lim⟩, by show (D.pend.map _).length ≤ _; rw [List.length_map]; omega, rfl⟩
      obtain ⟨y, hy, rfl⟩ := List.mem_map.1 hx
      have := h.sec y hy
      unfold dmg
      split <;> exact this
  · exact ⟨h, by simp, rfl⟩
end Go.Proofs.Yticgkbpmaakkiaa
