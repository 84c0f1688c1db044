/-
  view: a device looks as the reference says.
-/
import Derived.Test.YticgkbpmaakkiaaDm2q
namespace Go.Proofs.Yticgkbpmaakkiaa
open Go.RowKit

theorem r_neqB {P : Program} {o : Oper} {a : Act} {w : World} {t ty : TypeId} {x y : Operand} {b c d : Bool} (ho : o.op = .binOp .neq t x y ty) (ht : P.underlying t = some .bool) (hx : a.eval x = .bool b) (hy : a.eval y = .bool c) (hd : (!(b == c)) = d) : RunV P o a w (.bool d) w := by
  subst hd
  unfold RunV execOp
  simp only [ho, hx, hy]
  go_simp

set_option maxRecDepth 100000 in
set_option maxHeartbeats 4000000 in
theorem view_c (w : World) (p m : Nat) (pv dv wv : Value) (D : Dsk) (hD : Dok D) (hl : D.pend.length ≤ 49999) (h : DiskAt w p m pv D) (hr : RefAt w dv wv D) :
    Calls Try.prog 30 #[.pointer (some ⟨p, 0, none⟩), .agg (refL dv wv D).toArray] w fun e w' => e = .returned (.bool true) ∧ Fr Non w w' := by
  obtain ⟨ss, ys, hr⟩ := hr
  obtain ⟨gd, cd, rfl, -⟩ := hr.dvAt hD.n0
  obtain ⟨aw, cw, rfl, hwc⟩ := hr.wvAt'
  have hb1 := heap_alloc_new w (.cells (refL (.slice (some ⟨gd, 0, none⟩) ss.length cd) (.slice aw ys.length cw) D).toArray 45)
  have hF1 : Fr Non w (w.alloc (.cells (refL (.slice (some ⟨gd, 0, none⟩) ss.length cd) (.slice aw ys.length cw) D).toArray 45)) := (Fr.refl _ w).alloc _
  obtain ⟨w1, hw1⟩ : ∃ w1, w.alloc (.cells (refL (.slice (some ⟨gd, 0, none⟩) ss.length cd) (.slice aw ys.length cw) D).toArray 45) = w1 := ⟨_, rfl⟩
  rw [hw1] at hb1 hF1
  have HA0 : Hid (∀ W, Fr Non w1 W → W.cell? ⟨w.heap.size, 0, none⟩ = some (.slice (some ⟨gd, 0, none⟩) ss.length cd)) := fun W hW => hW.cell (cellOf hb1 0 rfl) (fun h => h)
  have HA1 : Hid (∀ W, Fr Non w1 W → W.cell? ⟨w.heap.size, 1, none⟩ = some (.slice aw ys.length cw)) := fun W hW => hW.cell (cellOf hb1 1 rfl) (fun h => h)
  have HA3 : Hid (∀ W, Fr Non w1 W → W.cell? ⟨w.heap.size, 3, none⟩ = some (.bool D.down)) := fun W hW => hW.cell (cellOf hb1 3 rfl) (fun h => h)
  have HA4 : Hid (∀ W, Fr Non w1 W → W.cell? ⟨w.heap.size, 4, none⟩ = some (.int .i64 D.ops)) := fun W hW => hW.cell (cellOf hb1 4 rfl) (fun h => h)
  have HLD : Hid (∀ W, Fr Non w1 W → W.rangeAt w.heap.size 0 (refL (.slice (some ⟨gd, 0, none⟩) ss.length cd) (.slice aw ys.length cw) D)) := fun W hW => rangeAt_of (hW.keep hb1 (fun h => h)) 0 _ (by simp)
  have HSN := Lib.hid hr.nd
  have H := Lib.hid (h.fr hF1 (fun _ _ h => h))
  have HR := Lib.hid (hr.non hF1)
  have HWC : Hid (ys ≠ [] → ∃ gw, aw = some ⟨gw, 0, none⟩ ∧ ∀ (i : Nat) (y : Int × Raw), ys[i]? = some y → w1.cell? ⟨gw, i * 2, none⟩ = some (.int .i64 y.1) ∧ w1.cell? ⟨gw, i * 2 + 1, none⟩ = some (rawV y.2)) := fun hne => by
    obtain ⟨gw, e, hh⟩ := hwc hne
    exact ⟨gw, e, fun i y hy => ⟨hF1.cell (hh i y hy).1 (fun h => h), hF1.cell (hh i y hy).2 (fun h => h)⟩⟩
  have HF1 := Lib.hid hF1
  have HB1W := Lib.hid hb1
  have HDK := Lib.hid hD
  have HL := Lib.hid hl
  clear h hr hb1 hF1 hwc hD hl
  go_enter Try.func30, Try.ntmps30
  go_wp2_with (first
    | (guard_target =~ wpList _ _ _ (⟨_, Op.box 45 _, _, _, _, _⟩ :: _) _ _; refine wl rfl (r_boxA rfl rfl) ?_; rw [hw1])
    | fail)
  clear hw1
  refine rc (fun W : World => Fr Non w1 W) 19 (by kernel_rfl) ?_
  have hS : (fun W : World => Fr Non w1 W) w1.drew := (Fr.refl _ w1).drew
  refine tp (i := 0) (v := .pointer (some ⟨p, 0, none⟩)) rfl (by kernel_rfl) (fun _ _ _ h => h) rfl (fun W0 => r_move rfl rfl) (.inr hS) ?_
  simp only [Act.put, List.setIfInBounds_toArray, List.set_cons_zero, List.set_cons_succ]
  refine tp (i := 2) (v := .pointer (some ⟨w.heap.size, 0, none⟩)) rfl (by kernel_rfl) (fun _ _ _ h => h) rfl (fun W0 => by unfold RunV; go_simp) (.inr hS) ?_
  simp only [Act.put, List.setIfInBounds_toArray, List.set_cons_zero, List.set_cons_succ]
  refine tc (i := 3) (v := .slice (some ⟨gd, 0, none⟩) ss.length cd) rfl 8 (by kernel_rfl) (fun _ _ _ h => h) rfl (fun W0 hw => r_load1 rfl rfl (HA0.out W0 hw) (Try.isAgg42 _)) hS ?_
  simp only [Act.put, List.setIfInBounds_toArray, List.set_cons_zero, List.set_cons_succ]
  refine tp (i := 4) (v := .int .i64 D.n) rfl (by kernel_rfl) (fun _ _ _ h => h) rfl (fun W0 => by have q := HSN.out; rw [← q]; unfold RunV; go_simp) (.inr hS) ?_
  simp only [Act.put, List.setIfInBounds_toArray, List.set_cons_zero, List.set_cons_succ]
  refine oc1 (i := 1) rfl (by kernel_rfl) rfl ?_
  unfold Oper.wp
  go_simp
  refine (Sectors_c w1.drew p m pv D (H.out.fr ((Fr.refl Non w1).drew) (fun _ _ h => h))).mono ?_
  rintro e w5 ⟨rfl, rfl⟩
  refine ⟨hS, ?_⟩
  refine tp (i := 5) (v := .bool false) rfl (by kernel_rfl) (fun _ _ _ h => h) rfl (fun W0 => r_neqI rfl Try.underlying3 rfl rfl (by simp)) (.inr hS) ?_
  simp only [Act.put, List.setIfInBounds_toArray, List.set_cons_zero, List.set_cons_succ]
  refine tp (i := 6) (v := .bool false) rfl (by kernel_rfl) (fun _ _ _ h => h) rfl (fun W0 => by unfold RunV; go_simp) (.inr hS) ?_
  simp only [Act.put, List.setIfInBounds_toArray, List.set_cons_zero, List.set_cons_succ]
  refine tpg (i := 7) (v := .pointer (some ⟨p, 0, none⟩)) rfl (by kernel_rfl) (fun _ _ _ h => h) rfl (fun W0 => r_move rfl rfl) (.inr hS) ?_
  simp only [Act.put, List.setIfInBounds_toArray, List.set_cons_zero, List.set_cons_succ]
  refine tpg (i := 9) (v := .pointer (some ⟨w.heap.size, 3, none⟩)) rfl (by kernel_rfl) (fun _ _ _ h => h) rfl (fun W0 => by unfold RunV; go_simp) (.inr hS) ?_
  simp only [Act.put, List.setIfInBounds_toArray, List.set_cons_zero, List.set_cons_succ]
  refine tcg (i := 10) (v := .bool D.down) rfl 8 (by kernel_rfl) (fun _ _ _ h => h) rfl (fun W0 hw => r_load1 rfl rfl (HA3.out W0 hw) (Try.isAgg4 _)) hS ?_
  simp only [Act.put, List.setIfInBounds_toArray, List.set_cons_zero, List.set_cons_succ]
  refine og1 (i := 8) rfl (by kernel_rfl) rfl ?_
  unfold Oper.wp
  go_simp
  refine (Down_c w1.drew p m pv D (H.out.fr ((Fr.refl Non w1).drew) (fun _ _ h => h))).mono ?_
  rintro e w5 ⟨rfl, rfl⟩
  refine ⟨hS, ?_⟩
  refine tpg (i := 11) (v := .bool false) rfl (by kernel_rfl) (fun _ _ _ h => h) rfl (fun W0 => r_neqB rfl Try.underlying4 rfl rfl (by simp)) (.inr hS) ?_
  simp only [Act.put, List.setIfInBounds_toArray, List.set_cons_zero, List.set_cons_succ]
  refine tp (i := 12) (v := .bool false) rfl (by kernel_rfl) (fun _ _ _ h => h) rfl (fun W0 => r_pick (b := false) rfl rfl rfl) (.inr hS) ?_
  simp only [Act.put, List.setIfInBounds_toArray, List.set_cons_zero, List.set_cons_succ]
  refine tp (i := 13) (v := .bool false) rfl (by kernel_rfl) (fun _ _ _ h => h) rfl (fun W0 => by unfold RunV; go_simp) (.inr hS) ?_
  simp only [Act.put, List.setIfInBounds_toArray, List.set_cons_zero, List.set_cons_succ]
  refine tpg (i := 14) (v := .pointer (some ⟨p, 0, none⟩)) rfl (by kernel_rfl) (fun _ _ _ h => h) rfl (fun W0 => r_move rfl rfl) (.inr hS) ?_
  simp only [Act.put, List.setIfInBounds_toArray, List.set_cons_zero, List.set_cons_succ]
  refine tpg (i := 16) (v := .pointer (some ⟨w.heap.size, 4, none⟩)) rfl (by kernel_rfl) (fun _ _ _ h => h) rfl (fun W0 => by unfold RunV; go_simp) (.inr hS) ?_
  simp only [Act.put, List.setIfInBounds_toArray, List.set_cons_zero, List.set_cons_succ]
  refine tcg (i := 17) (v := .int .i64 D.ops) rfl 8 (by kernel_rfl) (fun _ _ _ h => h) rfl (fun W0 hw => r_load1 rfl rfl (HA4.out W0 hw) (Try.isAgg3 _)) hS ?_
  simp only [Act.put, List.setIfInBounds_toArray, List.set_cons_zero, List.set_cons_succ]
  refine og1 (i := 15) rfl (by kernel_rfl) rfl ?_
  unfold Oper.wp
  go_simp
  refine (Operations_c w1.drew p m pv D (H.out.fr ((Fr.refl Non w1).drew) (fun _ _ h => h))).mono ?_
  rintro e w5 ⟨rfl, rfl⟩
  refine ⟨hS, ?_⟩
  refine tpg (i := 18) (v := .bool false) rfl (by kernel_rfl) (fun _ _ _ h => h) rfl (fun W0 => r_neqI rfl Try.underlying3 rfl rfl (by simp)) (.inr hS) ?_
  simp only [Act.put, List.setIfInBounds_toArray, List.set_cons_zero, List.set_cons_succ]
  refine oc2 (i := 19) (v := .bool false) rfl (by kernel_rfl) rfl (by kernel_rfl) (r_pick (b := false) rfl rfl rfl) ?_
  simp only [Act.put, List.setIfInBounds_toArray, List.set_cons_zero, List.set_cons_succ]
  refine dc (by kernel_rfl) ?_
  clear hS
  have HF1D : Hid (Fr Non w1 w1.drew) := (Fr.refl Non w1).drew
  go_wp2_with fail
  have hn4 : D.n ≤ 4096 := HDK.out.n1
  have hss : (ss.length : Int) = D.n := HSN.out
  clear hss hn4
  go_loopw [5] (fun i wr => ∃ k : Nat, i = .int .i64 k ∧ k ≤ ss.length ∧ Fr Non w1 wr) (fun i _ => ss.length - (intOf i).toNat)
  case atStart => exact ⟨0, rfl, Nat.zero_le _, HF1D.out⟩
  case round =>
    obtain ⟨k, rfl, hk, hF⟩ := hrel
    have HF := Lib.hid hF
    have a0 := HA0.out wr hF
    have hk9 : (k : Int) ≤ 4096 := by have := HSN.out; have := HDK.out.n1; omega
    by_cases hlt : k < ss.length
    · have hlt' : (k : Int) < (ss.length : Int) := by omega
      have HLT := Lib.hid hlt
      have hdw := H.out.fr hF (fun _ _ h => h)
      have HDW := Lib.hid hdw
      have HHAS : Hid (D.has k = true) := by have := HSN.out; unfold Dsk.has; exact decide_eq_true ⟨by omega, by omega⟩
      cases hdn : D.down with
      | true =>
        have HDN := Lib.hid hdn
        clear hF hlt hdw hdn
        go_wp2_with (first
          | (go_at_call 17; refine (Read_down wr p m pv D k HDW.out HDN.out).mono ?_; rintro e w4 ⟨rfl, rfl⟩)
          | (guard_target =~ wpList _ _ _ (⟨_, Op.load 45 _, _, _, _, _⟩ :: _) _ _; refine wl rfl (r_load (b := w.heap.size) (i := 0) rfl rfl (HLD.out wr HF.out) Try.underlying45 rfl (by rw [sz45]; rfl)) ?_)
          | (go_at_call 48; refine (RRead_down wr _ _ D k HDN.out).mono ?_; rintro e w5 ⟨rfl, hF5⟩; have HF5 := Lib.hid (HF.out.trans hF5 (fun _ _ h => h)); have HNIL := Lib.hid (BytesAt.nil w5); clear hF5)
          | (guard_target =~ wpList _ _ _ (⟨_, Op.convert 30 9 _, _, _, _, _⟩ :: _) _ _; refine wl rfl (r_convert (u := .slice none 0 0) rfl rfl (run_str Try.underlying30 Try.underlying5 Try.underlying9 HNIL.out)) ?_)
          | (guard_target =~ wpList _ _ _ (⟨_, Op.binOp _ 9 _ _ _, _, _, _, _⟩ :: _) _ _; refine wl rfl (r_strNeq_same rfl Try.underlying9 rfl rfl) ?_)
          | fail)
        go_roundw
        case rel => exact ⟨k + 1, by go_num, by have := HLT.out; omega, HF5.out⟩
        case measure => have := HLT.out; simp [intOf] <;> omega
      | false =>
        have HDN := Lib.hid hdn
        clear hF hlt hdw hdn
        go_wp2_with (first
          | (go_at_call 17; refine (Read_ok wr p m pv D k HDW.out HDN.out HHAS.out (by have := HL.out; omega)).mono ?_; rintro e w4 ⟨g4, rfl, hg4, -, hF4⟩; have HG4 := Lib.hid hg4; have HF4 := Lib.hid (HF.out.trans hF4 (fun _ _ h => h)); clear hg4 hF4)
          | (guard_target =~ wpList _ _ _ (⟨_, Op.load 45 _, _, _, _, _⟩ :: _) _ _; refine wl rfl (r_load (b := w.heap.size) (i := 0) rfl rfl (HLD.out w4 HF4.out) Try.underlying45 rfl (by rw [sz45]; rfl)) ?_)
          | (go_at_call 48; refine (RRead_ok w4 _ _ D k HDK.out ⟨ss, ys, HR.out.non HF4.out⟩ HDN.out HHAS.out).mono ?_; rintro e w5 ⟨g5, cap5, rfl, ho5, hF5, -⟩; have HBA := Lib.hid (BytesAt.of_block (hF5.keep HG4.out (fun h => h)) 256 256 (D.see k).2.symm); have HBB := Lib.hid (OwnB.bytes' ho5 (D.see k).2); have HF5 := Lib.hid (HF4.out.trans hF5 (fun _ _ h => h)); clear ho5 hF5)
          | (guard_target =~ wpList _ _ _ (⟨some 52, Op.convert 30 9 _, _, _, _, _⟩ :: _) _ _; refine wl rfl (r_convert (u := .slice (some ⟨g4, 0, none⟩) 256 256) rfl rfl (run_str Try.underlying30 Try.underlying5 Try.underlying9 HBA.out)) ?_)
          | (guard_target =~ wpList _ _ _ (⟨some 54, Op.convert 30 9 _, _, _, _, _⟩ :: _) _ _; refine wl rfl (r_convert (u := .slice (some ⟨g5, 0, none⟩) 256 cap5) rfl rfl (run_str Try.underlying30 Try.underlying5 Try.underlying9 HBB.out)) ?_)
          | (guard_target =~ wpList _ _ _ (⟨_, Op.binOp _ 9 _ _ _, _, _, _, _⟩ :: _) _ _; refine wl rfl (r_strNeq_same rfl Try.underlying9 rfl rfl) ?_)
          | fail)
        go_roundw
        case rel => exact ⟨k + 1, by go_num, by have := HLT.out; omega, HF5.out⟩
        case measure => have := HLT.out; simp [intOf] <;> omega
    · have hge : ¬ ((k : Int) < (ss.length : Int)) := by omega
      have a1 := HA1.out
      clear hF hlt a1
      have HYL := Lib.hid HR.out.nw
      have hpl5 : (D.pend.length : Int) ≤ 49999 := by have := HL.out; omega
      go_wp2_with fail
      refine (Pending_ok wr p m pv D (H.out.fr HF.out (fun _ _ h => h)) (by have := HL.out; omega)).mono ?_
      rintro e w6 ⟨v6, rfl, hp6, hF6⟩
      have HF6 := Lib.hid (HF.out.trans hF6 (fun _ _ h => h))
      obtain ⟨zs, hzo, hzl, -, hzz⟩ := hp6
      obtain ⟨ap, cp, rfl, -, hzn, hag⟩ := Own.shape hzo
      have a1 := HA1.out w6 HF6.out
      rw [HYL.out] at a1
      rw [hzl] at hzo ⊢
      have HZ := Lib.hid (And.intro hzo (And.intro hzl (And.intro hzn (And.intro hag hzz))))
      clear hzo hzl hzn hag hzz hF6
      go_wp2_with fail
      clear a0 a1 hge hk9
      go_loopw [11] (fun i wr => ∃ k : Nat, i = .int .i64 k ∧ k ≤ D.pend.length ∧ Fr Non w6 wr) (fun i _ => D.pend.length - (intOf i).toNat)
      case atStart => exact ⟨0, rfl, Nat.zero_le _, Fr.refl _ _⟩
      case round =>
        obtain ⟨k, rfl, hk, hF⟩ := hrel
        have HFW := Lib.hid hF
        clear hF
        by_cases hlt : k < D.pend.length
        · have hlt' : (k : Int) < (D.pend.length : Int) := by omega
          have hk9 : (k : Int) ≤ 49999 := by omega
          obtain ⟨x, hx⟩ : ∃ x, D.pend[k]? = some x := ⟨_, List.getElem?_eq_getElem hlt⟩
          obtain ⟨zz, hz⟩ : ∃ z, zs[k]? = some z := ⟨_, List.getElem?_eq_getElem (by have := HZ.out.2.1; omega)⟩
          obtain ⟨y, hy⟩ : ∃ y, ys[k]? = some y := ⟨_, List.getElem?_eq_getElem (by have := HR.out.nw; omega)⟩
          obtain ⟨e1, hob1, g1, c1, f1, -⟩ := HZ.out.2.2.2.2 k zz x hz hx
          obtain ⟨e2, g2, c2, f2, hob2⟩ := HR.out.bw k y x hy hx
          obtain ⟨z1, z2⟩ := zz
          obtain ⟨y1, y2⟩ := y
          simp only at e1 f1 e2 f2 hob1
          subst e1 f1 e2 f2
          obtain ⟨gp, rfl⟩ : ∃ gp, ap = some ⟨gp, 0, none⟩ := by
            cases ap with
            | none => have h1 := HZ.out.2.2.1 rfl; rw [h1] at hz; cases hz
            | some ad => obtain ⟨g, rfl⟩ := HZ.out.2.2.2.1 ad rfl; exact ⟨g, rfl⟩
          obtain ⟨gw, rfl, hc⟩ := HWC.out (fun e => by rw [e] at hy; cases hy)
          have HW6 : Hid (Fr Non w6 wr.drew) := HFW.out.drew
          have HW1 : Hid (Fr Non w1 wr.drew) := HF6.out.trans HW6.out (fun _ _ h => h)
          have q0 := Own.elem (show ElemOk Try.prog 50 2 32 encW from elem50) HZ.out.1 hz 0 _ rfl
          have q1 := Own.elem (show ElemOk Try.prog 50 2 32 encW from elem50) HZ.out.1 hz 1 _ rfl
          have HP1 : Hid (∀ W, Fr Non wr.drew W → W.cell? ⟨gp, k * 2, none⟩ = some (.int .i64 x.1)) := fun W hW => hW.cell (HW6.out.cell q0 (fun h => h)) (fun h => h)
          have HP2 : Hid (∀ W, Fr Non wr.drew W → W.cell? ⟨gp, k * 2 + 1, none⟩ = some (.slice (some ⟨g1, 0, none⟩) 256 c1)) := fun W hW => hW.cell (HW6.out.cell q1 (fun h => h)) (fun h => h)
          have HY1 : Hid (∀ W, Fr Non wr.drew W → W.cell? ⟨gw, k * 2, none⟩ = some (.int .i64 x.1)) := fun W hW => hW.cell (HW1.out.cell (hc k _ hy).1 (fun h => h)) (fun h => h)
          have HY2 : Hid (∀ W, Fr Non wr.drew W → W.cell? ⟨gw, k * 2 + 1, none⟩ = some (.slice (some ⟨g2, 0, none⟩) 256 c2)) := fun W hW => hW.cell (HW1.out.cell (hc k _ hy).2 (fun h => h)) (fun h => h)
          have HW : Hid (∀ W, Fr Non wr.drew W → W.cell? ⟨w.heap.size, 1, none⟩ = some (.slice (some ⟨gw, 0, none⟩) ys.length cw)) := fun W hW => HA1.out W (HW1.out.trans hW (fun _ _ h => h))
          have HB1 : Hid (∀ W, Fr Non wr.drew W → BytesAt W (.slice (some ⟨g1, 0, none⟩) 256 c1) x.2.1) := fun W hW => (OwnB.bytes' hob1 x.2.2).fr0 (HW6.out.trans hW (fun _ _ h => h)) (.inr (fun _ _ h => h))
          have HB2 : Hid (∀ W, Fr Non wr.drew W → BytesAt W (.slice (some ⟨g2, 0, none⟩) 256 c2) x.2.1) := fun W hW => (OwnB.bytes hob2).fr0 (HW1.out.trans hW (fun _ _ h => h)) (.inr (fun _ _ h => h))
          have HLT := Lib.hid hlt
          clear hx hz hy hob1 hob2 hc q0 q1 hlt
          have hly : (k : Int) < (ys.length : Int) := by have := HYL.out; omega
          have hly' : ¬ (ys.length ≤ k) := by omega
          go_wp2_with fail
          refine rc (fun W : World => Fr Non wr.drew W) 27 (by kernel_rfl) ?_
          have hS : (fun W : World => Fr Non wr.drew W) wr.drew := Fr.refl _ _
          refine tp (i := 0) (v := .slice (some ⟨gp, 0, none⟩) D.pend.length cp) rfl (by kernel_rfl) (fun _ _ _ h => h) rfl (fun W0 => r_move rfl rfl) (.inr hS) ?_
          simp only [Act.put, List.setIfInBounds_toArray, List.set_cons_zero, List.set_cons_succ]
          refine tp (i := 1) (v := .int .i64 (k : Int)) rfl (by kernel_rfl) (fun _ _ _ h => h) rfl (fun W0 => by unfold RunV; go_simp) (.inr hS) ?_
          simp only [Act.put, List.setIfInBounds_toArray, List.set_cons_zero, List.set_cons_succ]
          refine tp (i := 2) (v := .pointer (some ⟨gp, k * 2, none⟩)) rfl (by kernel_rfl) (fun _ _ _ h => h) rfl (fun W0 => by unfold RunV; go_simp) (.inr hS) ?_
          simp only [Act.put, List.setIfInBounds_toArray, List.set_cons_zero, List.set_cons_succ]
          refine tp (i := 3) (v := .pointer (some ⟨gp, k * 2, none⟩)) rfl (by kernel_rfl) (fun _ _ _ h => h) rfl (fun W0 => by unfold RunV; go_simp) (.inr hS) ?_
          simp only [Act.put, List.setIfInBounds_toArray, List.set_cons_zero, List.set_cons_succ]
          refine tp (i := 5) (v := .pointer (some ⟨w.heap.size, 1, none⟩)) rfl (by kernel_rfl) (fun _ _ _ h => h) rfl (fun W0 => by unfold RunV; go_simp) (.inr hS) ?_
          simp only [Act.put, List.setIfInBounds_toArray, List.set_cons_zero, List.set_cons_succ]
          refine tp (i := 7) (v := .int .i64 (k : Int)) rfl (by kernel_rfl) (fun _ _ _ h => h) rfl (fun W0 => by unfold RunV; go_simp) (.inr hS) ?_
          simp only [Act.put, List.setIfInBounds_toArray, List.set_cons_zero, List.set_cons_succ]
          refine tc (i := 4) (v := .int .i64 x.1) rfl 8 (by kernel_rfl) (fun _ _ _ h => h) rfl (fun W0 hw => r_load1 rfl rfl (HP1.out W0 hw) (Try.isAgg3 _)) hS ?_
          simp only [Act.put, List.setIfInBounds_toArray, List.set_cons_zero, List.set_cons_succ]
          refine tc (i := 6) (v := .slice (some ⟨gw, 0, none⟩) ys.length cw) rfl 8 (by kernel_rfl) (fun _ _ _ h => h) rfl (fun W0 hw => r_load1 rfl rfl (HW.out W0 hw) (Try.isAgg43 _)) hS ?_
          simp only [Act.put, List.setIfInBounds_toArray, List.set_cons_zero, List.set_cons_succ]
          refine tp (i := 8) (v := .pointer (some ⟨gw, k * 2, none⟩)) rfl (by kernel_rfl) (fun _ _ _ h => h) rfl (fun W0 => by unfold RunV; go_simp) (.inr hS) ?_
          simp only [Act.put, List.setIfInBounds_toArray, List.set_cons_zero, List.set_cons_succ]
          refine tp (i := 9) (v := .pointer (some ⟨gw, k * 2, none⟩)) rfl (by kernel_rfl) (fun _ _ _ h => h) rfl (fun W0 => by unfold RunV; go_simp) (.inr hS) ?_
          simp only [Act.put, List.setIfInBounds_toArray, List.set_cons_zero, List.set_cons_succ]
          refine tc (i := 10) (v := .int .i64 x.1) rfl 8 (by kernel_rfl) (fun _ _ _ h => h) rfl (fun W0 hw => r_load1 rfl rfl (HY1.out W0 hw) (Try.isAgg3 _)) hS ?_
          simp only [Act.put, List.setIfInBounds_toArray, List.set_cons_zero, List.set_cons_succ]
          refine tp (i := 11) (v := .bool false) rfl (by kernel_rfl) (fun _ _ _ h => h) rfl (fun W0 => r_neqI rfl Try.underlying3 rfl rfl (by simp)) (.inr hS) ?_
          simp only [Act.put, List.setIfInBounds_toArray, List.set_cons_zero, List.set_cons_succ]
          refine tp (i := 12) (v := .bool false) rfl (by kernel_rfl) (fun _ _ _ h => h) rfl (fun W0 => by unfold RunV; go_simp) (.inr hS) ?_
          simp only [Act.put, List.setIfInBounds_toArray, List.set_cons_zero, List.set_cons_succ]
          refine tpg (i := 13) (v := .slice (some ⟨gp, 0, none⟩) D.pend.length cp) rfl (by kernel_rfl) (fun _ _ _ h => h) rfl (fun W0 => r_move rfl rfl) (.inr hS) ?_
          simp only [Act.put, List.setIfInBounds_toArray, List.set_cons_zero, List.set_cons_succ]
          refine tpg (i := 14) (v := .int .i64 (k : Int)) rfl (by kernel_rfl) (fun _ _ _ h => h) rfl (fun W0 => by unfold RunV; go_simp) (.inr hS) ?_
          simp only [Act.put, List.setIfInBounds_toArray, List.set_cons_zero, List.set_cons_succ]
          refine tpg (i := 15) (v := .pointer (some ⟨gp, k * 2, none⟩)) rfl (by kernel_rfl) (fun _ _ _ h => h) rfl (fun W0 => by unfold RunV; go_simp) (.inr hS) ?_
          simp only [Act.put, List.setIfInBounds_toArray, List.set_cons_zero, List.set_cons_succ]
          refine tpg (i := 16) (v := .pointer (some ⟨gp, k * 2 + 1, none⟩)) rfl (by kernel_rfl) (fun _ _ _ h => h) rfl (fun W0 => by unfold RunV; go_simp) (.inr hS) ?_
          simp only [Act.put, List.setIfInBounds_toArray, List.set_cons_zero, List.set_cons_succ]
          refine tpg (i := 19) (v := .pointer (some ⟨w.heap.size, 1, none⟩)) rfl (by kernel_rfl) (fun _ _ _ h => h) rfl (fun W0 => by unfold RunV; go_simp) (.inr hS) ?_
          simp only [Act.put, List.setIfInBounds_toArray, List.set_cons_zero, List.set_cons_succ]
          refine tpg (i := 21) (v := .int .i64 (k : Int)) rfl (by kernel_rfl) (fun _ _ _ h => h) rfl (fun W0 => by unfold RunV; go_simp) (.inr hS) ?_
          simp only [Act.put, List.setIfInBounds_toArray, List.set_cons_zero, List.set_cons_succ]
          refine tcg (i := 17) (v := .slice (some ⟨g1, 0, none⟩) 256 c1) rfl 8 (by kernel_rfl) (fun _ _ _ h => h) rfl (fun W0 hw => r_load1 rfl rfl (HP2.out W0 hw) (Try.isAgg30 _)) hS ?_
          simp only [Act.put, List.setIfInBounds_toArray, List.set_cons_zero, List.set_cons_succ]
          refine tcg (i := 18) (v := .string (strOf x.2.1)) rfl 8 (by kernel_rfl) (fun _ _ _ h => h) rfl (fun W0 hw => r_convert (u := .slice (some ⟨g1, 0, none⟩) 256 c1) rfl rfl (run_str Try.underlying30 Try.underlying5 Try.underlying9 (HB1.out W0 hw))) hS ?_
          simp only [Act.put, List.setIfInBounds_toArray, List.set_cons_zero, List.set_cons_succ]
          refine tcg (i := 20) (v := .slice (some ⟨gw, 0, none⟩) ys.length cw) rfl 8 (by kernel_rfl) (fun _ _ _ h => h) rfl (fun W0 hw => r_load1 rfl rfl (HW.out W0 hw) (Try.isAgg43 _)) hS ?_
          simp only [Act.put, List.setIfInBounds_toArray, List.set_cons_zero, List.set_cons_succ]
          refine tpg (i := 22) (v := .pointer (some ⟨gw, k * 2, none⟩)) rfl (by kernel_rfl) (fun _ _ _ h => h) rfl (fun W0 => by unfold RunV; go_simp) (.inr hS) ?_
          simp only [Act.put, List.setIfInBounds_toArray, List.set_cons_zero, List.set_cons_succ]
          refine tpg (i := 23) (v := .pointer (some ⟨gw, k * 2 + 1, none⟩)) rfl (by kernel_rfl) (fun _ _ _ h => h) rfl (fun W0 => by unfold RunV; go_simp) (.inr hS) ?_
          simp only [Act.put, List.setIfInBounds_toArray, List.set_cons_zero, List.set_cons_succ]
          refine tcg (i := 24) (v := .slice (some ⟨g2, 0, none⟩) 256 c2) rfl 8 (by kernel_rfl) (fun _ _ _ h => h) rfl (fun W0 hw => r_load1 rfl rfl (HY2.out W0 hw) (Try.isAgg30 _)) hS ?_
          simp only [Act.put, List.setIfInBounds_toArray, List.set_cons_zero, List.set_cons_succ]
          refine tcg (i := 25) (v := .string (strOf x.2.1)) rfl 8 (by kernel_rfl) (fun _ _ _ h => h) rfl (fun W0 hw => r_convert (u := .slice (some ⟨g2, 0, none⟩) 256 c2) rfl rfl (run_str Try.underlying30 Try.underlying5 Try.underlying9 (HB2.out W0 hw))) hS ?_
          simp only [Act.put, List.setIfInBounds_toArray, List.set_cons_zero, List.set_cons_succ]
          refine tpg (i := 26) (v := .bool false) rfl (by kernel_rfl) (fun _ _ _ h => h) rfl (fun W0 => r_strNeq_same rfl Try.underlying9 rfl rfl) (.inr hS) ?_
          simp only [Act.put, List.setIfInBounds_toArray, List.set_cons_zero, List.set_cons_succ]
          refine oc2 (i := 27) (v := .bool false) rfl (by kernel_rfl) rfl (by kernel_rfl) (r_pick (b := false) rfl rfl rfl) ?_
          simp only [Act.put, List.setIfInBounds_toArray, List.set_cons_zero, List.set_cons_succ]
          refine dc (by kernel_rfl) ?_
          clear hS
          go_wp2_with fail
          go_roundw
          case rel => exact ⟨k + 1, by go_num, by have := HLT.out; omega, HW6.out⟩
          case measure => have := HLT.out; simp [intOf] <;> omega
        · have hge : ¬ ((k : Int) < (D.pend.length : Int)) := by omega
          clear hlt
          go_wp2_with fail
          go_ret
          exact ⟨rfl, (HF1.out.trans HF6.out (fun _ _ h => h)).trans HFW.out (fun _ _ h => h)⟩
end Go.Proofs.Yticgkbpmaakkiaa
