/-
  The reference's Visible and Read.
-/
import Derived.Test.YticgkbpmaakkiaaDkIq
namespace Go.Proofs.Yticgkbpmaakkiaa
open Go.RowKit

theorem RefIs.dvAt {w : World} {dv wv : Value} {ss : List Raw} {ys : List (Int × Raw)} {n : Int} {at' : Int → Sec} {pend : List (Int × Sec)} (h : RefIs w dv wv ss ys n at' pend) (hn : 1 ≤ n) :
    ∃ gd cd, dv = .slice (some ⟨gd, 0, none⟩) ss.length cd ∧ ∀ (i : Nat) (s : Raw), ss[i]? = some s → w.cell? ⟨gd, i, none⟩ = some (rawV s) := by
  obtain ⟨a, cap, rfl, _, hnil, hag⟩ := Own.shape h.hd
  cases a with
  | none => have := hnil rfl; have h2 := h.nd; rw [this] at h2; simp at h2; omega
  | some ad =>
    obtain ⟨g, rfl⟩ := hag ad rfl
    refine ⟨g, cap, rfl, fun i s hi => ?_⟩
    have := Own.elem elem30 h.hd hi 0 _ rfl
    simpa using this
theorem RefIs.wvAt {w : World} {dv wv : Value} {ss : List Raw} {ys : List (Int × Raw)} {n : Int} {at' : Int → Sec} {pend : List (Int × Sec)} (h : RefIs w dv wv ss ys n at' pend) :
    ∃ a cw, wv = .slice a ys.length cw ∧ ∀ (i : Nat) (y : Int × Raw), ys[i]? = some y → ∃ gw, a = some ⟨gw, 0, none⟩ ∧ w.cell? ⟨gw, i * 2, none⟩ = some (.int .i64 y.1) ∧ w.cell? ⟨gw, i * 2 + 1, none⟩ = some (rawV y.2) := by
  obtain ⟨a, cap, rfl, _, hnil, hag⟩ := Own.shape h.hw
  refine ⟨a, cap, rfl, fun i y hi => ?_⟩
  cases a with
  | none => have := hnil rfl; rw [this] at hi; simp at hi
  | some ad =>
    obtain ⟨g, rfl⟩ := hag ad rfl
    have e0 := Own.elem elem92 h.hw hi 0 _ rfl
    have e1 := Own.elem elem92 h.hw hi 1 _ rfl
    exact ⟨g, rfl, by simpa using e0, e1⟩

theorem sec_ne (s : Sec) : s.1 ≠ [] := fun h => by have := s.2; rw [h] at this; simp at this

set_option maxRecDepth 100000 in
set_option maxHeartbeats 1000000 in
theorem Visible_ref (w : World) (dv wv : Value) (D : Dsk) (i : Nat) (hD : Dok D) (hi : (i : Int) < D.n) (h : RefAt w dv wv D) :
    Calls Try.prog 27 #[.agg (refL dv wv D).toArray, .int .i64 i] w fun e w' => ∃ g cap, e = .returned (.slice (some ⟨g, 0, none⟩) 256 cap) ∧ OwnB w' (.slice (some ⟨g, 0, none⟩) 256 cap) (D.see i).1 ∧ Fr Non w w' ∧ w.heap.size ≤ g := by
  obtain ⟨ss, ys, h⟩ := h
  obtain ⟨gd, cd, rfl, hdc⟩ := h.dvAt hD.n0
  obtain ⟨aw, cw, rfl, hwc⟩ := h.wvAt
  have hyb : ys.length ≤ 50000 := by have := h.nw; have := hD.len; omega
  have hsl : i < ss.length := by have := h.nd; omega
  have hsl' : (i : Int) < (ss.length : Int) := by omega
  obtain ⟨s, hs⟩ : ∃ s, ss[i]? = some s := ⟨_, List.getElem?_eq_getElem hsl⟩
  obtain ⟨gs, cs, rfl, hos⟩ := h.bd i s hs
  obtain ⟨w1, hw1⟩ : ∃ w1, w.alloc (.cells (refL (.slice (some ⟨gd, 0, none⟩) ss.length cd) (.slice aw ys.length cw) D).toArray 45) = w1 := ⟨_, rfl⟩
  have hF1 : Fr Non w w1 := by rw [← hw1]; exact (Fr.refl _ w).alloc _
  have hb1 : w1.heap[w.heap.size]? = some (.cells (refL (.slice (some ⟨gd, 0, none⟩) ss.length cd) (.slice aw ys.length cw) D).toArray 45) := by rw [← hw1]; exact heap_alloc_new w _
  have hF2 : Fr Non w1 (w1.alloc (.cells #[] 5)) := (Fr.refl _ _).alloc _
  have c0 : (w1.alloc (.cells #[] 5)).cell? ⟨w.heap.size, 0, none⟩ = some (.slice (some ⟨gd, 0, none⟩) ss.length cd) := hF2.cell (cellOf hb1 0 rfl) (fun h => h)
  have cd' : (w1.alloc (.cells #[] 5)).cell? ⟨gd, i, none⟩ = some (.slice (some ⟨gs, 0, none⟩) 256 cs) := hF2.cell (hF1.cell (hdc i _ hs) (fun h => h)) (fun h => h)
  obtain ⟨b2, cap2, w2, hrun2, ho2, hfr2, hle2, hlt2⟩ := run_dup w1 (.slice (some ⟨gs, 0, none⟩) 256 cs) (D.at i).1 (OwnB.bytes (hos.fr hF1 (fun _ _ h => h))) (sec_ne _) (by rw [(D.at i).2]; decide)
  rw [(D.at i).2] at hrun2 ho2
  have H := Lib.hid h
  have HF1 := Lib.hid hF1
  have HB1 := Lib.hid hb1
  have HWC := Lib.hid hwc
  have HRUN2 := Lib.hid hrun2
  have HO2 := Lib.hid ho2
  have HFR2 := Lib.hid hfr2
  have HLE2 := Lib.hid hle2
  clear h hF1 hb1 hwc hdc hs hos hsl hF2 hrun2 ho2 hfr2 hle2 hlt2 hi
  go_enter Try.func27, Try.ntmps27
  go_wp2_with (first
    | (guard_target =~ wpList _ _ _ (⟨_, Op.box 45 _, _, _, _, _⟩ :: _) _ _; refine wl rfl (r_boxA rfl rfl) ?_; rw [hw1])
    | (guard_target =~ wpList _ _ _ (⟨_, Op.buildSlice 30 0 _, _, _, _, _⟩ :: _) _ _; refine wl rfl (r_buildSlice (vs := []) rfl rfl (run_empty30 w1)) ?_)
    | (guard_target =~ wpList _ _ _ (⟨_, Op.call { callee := Callee.builtin Builtin.append, args := _, argTypes := _ }, _, _, _, _⟩ :: _) _ _; refine wl rfl (r_builtin (vs := [.slice (some ⟨w1.heap.size, 0, none⟩) 0 0, .slice (some ⟨gs, 0, none⟩) 256 cs]) rfl rfl (builtin_append HRUN2.out)) ?_)
    | fail)
  go_loopw [5, 6] (fun v u wr => ∃ k : Nat, k ≤ ys.length ∧ u = .int .i64 k ∧ ∃ g cap, v = .slice (some ⟨g, 0, none⟩) 256 cap ∧ OwnB wr (.slice (some ⟨g, 0, none⟩) 256 cap) (seen i (D.pend.take k) (D.at i)).1 ∧ Fr Non w1 wr ∧ w.heap.size ≤ g) (fun _ u _ => ys.length - (intOf u).toNat)
  case atStart => exact ⟨0, Nat.zero_le _, rfl, _, _, rfl, HO2.out, HFR2.out, Nat.le_trans HF1.out.size HLE2.out⟩
  case round =>
    obtain ⟨k, hk, rfl, g, cap, rfl, hO, hF, hg⟩ := hrel
    have HO := Lib.hid hO
    have HF := Lib.hid hF
    have HG := Lib.hid hg
    have c1 : wr.cell? ⟨w.heap.size, 1, none⟩ = some (.slice aw ys.length cw) := hF.cell (cellOf HB1.out 1 rfl) (fun h => h)
    clear hO hF hg
    by_cases hlt : k < ys.length
    · obtain ⟨y, hy⟩ : ∃ y, ys[k]? = some y := ⟨_, List.getElem?_eq_getElem hlt⟩
      obtain ⟨x, hx⟩ : ∃ x, D.pend[k]? = some x := ⟨_, List.getElem?_eq_getElem (by have := H.out.nw; omega)⟩
      obtain ⟨gw, rfl, e0, e1⟩ := HWC.out k y hy
      obtain ⟨ey, g3, cap3, ey2, ho3⟩ := H.out.bw k y x hy hx
      rw [ey] at e0
      rw [ey2] at e1
      have d0 : wr.cell? ⟨gw, k * 2, none⟩ = some (.int .i64 x.1) := HF.out.cell (HF1.out.cell e0 (fun h => h)) (fun h => h)
      have hFe : Fr Non wr (wr.alloc (.cells #[] 5)) := (Fr.refl _ _).alloc _
      have d1 : (wr.alloc (.cells #[] 5)).cell? ⟨gw, k * 2 + 1, none⟩ = some (.slice (some ⟨g3, 0, none⟩) 256 cap3) := hFe.cell (HF.out.cell (HF1.out.cell e1 (fun h => h)) (fun h => h)) (fun h => h)
      have c1' : (wr.alloc (.cells #[] 5)).cell? ⟨w.heap.size, 1, none⟩ = some (.slice (some ⟨gw, 0, none⟩) ys.length cw) := hFe.cell c1 (fun h => h)
      have HX := Lib.hid hx
      obtain ⟨b4, cap4, w4, hrun4, ho4, hfr4, hle4, hlt4⟩ := run_dup wr (.slice (some ⟨g3, 0, none⟩) 256 cap3) x.2.1 (OwnB.bytes ((ho3.fr HF1.out (fun _ _ h => h)).fr HF.out (fun _ _ h => h))) (sec_ne _) (by rw [x.2.2]; decide)
      rw [x.2.2] at hrun4 ho4
      have HRUN4 := Lib.hid hrun4
      have HO4 := Lib.hid ho4
      have HFR4 := Lib.hid hfr4
      have HLE4 := Lib.hid hle4
      have hstep : ∀ b : Bool, decide (x.1 = (i : Int)) = b → (if b then x.2 else seen i (D.pend.take k) (D.at i)) = seen i (D.pend.take (k + 1)) (D.at i) := by
        intro b hb
        rw [List.take_add_one, hx, Option.toList_some, seen_append]
        show _ = if x.1 = (i : Int) then x.2 else _
        by_cases h : x.1 = (i : Int)
        · rw [if_pos h, ← hb, decide_eq_true h]; rfl
        · rw [if_neg h, ← hb, decide_eq_false h]; rfl
      have HST := Lib.hid hstep
      clear hx hy e0 e1 ey ey2 ho3 hrun4 ho4 hfr4 hle4 hlt4 hFe hstep
      by_cases hxi : x.1 = (i : Int)
      · have e1 := HST.out true (decide_eq_true hxi)
        simp only [if_true] at e1
        rw [hxi] at d0
        have E1 := Lib.hid e1
        clear e1 hxi
        go_wp2_with (first
          | (guard_target =~ wpList _ _ _ (⟨_, Op.buildSlice 30 0 _, _, _, _, _⟩ :: _) _ _; refine wl rfl (r_buildSlice (vs := []) rfl rfl (run_empty30 wr)) ?_)
          | (guard_target =~ wpList _ _ _ (⟨_, Op.call { callee := Callee.builtin Builtin.append, args := _, argTypes := _ }, _, _, _, _⟩ :: _) _ _; refine wl rfl (r_builtin (vs := [.slice (some ⟨wr.heap.size, 0, none⟩) 0 0, .slice (some ⟨g3, 0, none⟩) 256 cap3]) rfl rfl (builtin_append HRUN4.out)) ?_)
          | fail)
        go_roundw
        case rel => exact ⟨k + 1, by omega, by go_num, b4, cap4, rfl, by rw [← E1.out]; exact HO4.out, HF.out.trans HFR4.out (fun _ _ h => h), Nat.le_trans (Nat.le_trans HF1.out.size HF.out.size) HLE4.out⟩
        case measure => simp [intOf] <;> omega
      · have e1 := HST.out false (decide_eq_false hxi)
        simp only [Bool.false_eq_true, if_false] at e1
        have E1 := Lib.hid e1
        have hxb : (x.1 == (i : Int)) = false := beq_eq_false_iff_ne.2 hxi
        clear e1 hxi
        go_wp2
        go_roundw
        case rel => exact ⟨k + 1, by omega, by go_num, g, cap, rfl, by rw [← E1.out]; exact HO.out, HF.out, HG.out⟩
        case measure => simp [intOf] <;> omega
    · obtain rfl : k = ys.length := by omega
      have hyl := H.out.nw
      rw [hyl, List.take_length] at HO
      have HYL := Lib.hid hyl
      clear hyl
      go_wp2
      go_ret
      exact ⟨g, cap, rfl, HO.out, HF1.out.trans HF.out (fun _ _ h => h), HG.out⟩

/-! ### Read -/
set_option maxRecDepth 100000 in
theorem RRead_down (w : World) (dv wv : Value) (D : Dsk) (i : Int) (hd : D.down = true) :
    Calls Try.prog 48 #[.agg (refL dv wv D).toArray, .int .i64 i] w fun e w' => e = .returned (.tuple #[.slice none 0 0, .int .i64 28]) ∧ Fr Non w w' := by
  have hF1 : Fr Non w (w.alloc (.cells (refL dv wv D).toArray 45)) := (Fr.refl _ w).alloc _
  have c3 : (w.alloc (.cells (refL dv wv D).toArray 45)).cell? ⟨w.heap.size, 3, none⟩ = some (.bool true) := by rw [← hd]; exact cellOf (heap_alloc_new w _) 3 rfl
  have HF1 := Lib.hid hF1
  clear hF1
  go_enter Try.func48, Try.ntmps48
  go_wp2_with (first | (guard_target =~ wpList _ _ _ (⟨_, Op.box 45 _, _, _, _, _⟩ :: _) _ _; refine wl rfl (r_boxA rfl rfl) ?_) | fail)
  go_ret2
  exact ⟨rfl, HF1.out⟩

set_option maxRecDepth 100000 in
theorem RRead_no (w : World) (dv wv : Value) (D : Dsk) (i : Int) (hD : Dok D) (h : RefAt w dv wv D) (hd : D.down = false) (hh : D.has i = false) :
    Calls Try.prog 48 #[.agg (refL dv wv D).toArray, .int .i64 i] w fun e w' => e = .returned (.tuple #[.slice none 0 0, .int .i64 8]) ∧ Fr Non w w' := by
  obtain ⟨w1, hw1⟩ : ∃ w1, w.alloc (.cells (refL dv wv D).toArray 45) = w1 := ⟨_, rfl⟩
  have hF1 : Fr Non w w1 := by rw [← hw1]; exact (Fr.refl _ w).alloc _
  have hb1 : w1.heap[w.heap.size]? = some (.cells (refL dv wv D).toArray 45) := by rw [← hw1]; exact heap_alloc_new w _
  have c3 : w1.cell? ⟨w.heap.size, 3, none⟩ = some (.bool false) := by rw [← hd]; exact cellOf hb1 3 rfl
  have hr := rangeAt_of hb1 0 (refL dv wv D) (by simp)
  have HF1 := Lib.hid hF1
  have HR := Lib.hid hr
  have H1 := Lib.hid (h.non hF1)
  clear hF1 hb1 hr h hd
  go_enter Try.func48, Try.ntmps48
  go_wp2_with (first
    | (guard_target =~ wpList _ _ _ (⟨_, Op.box 45 _, _, _, _, _⟩ :: _) _ _; refine wl rfl (r_boxA rfl rfl) ?_; rw [hw1])
    | (guard_target =~ wpList _ _ _ (⟨_, Op.load 45 _, _, _, _, _⟩ :: _) _ _; refine wl rfl (r_load (b := w.heap.size) (i := 0) rfl rfl HR.out Try.underlying45 rfl (by rw [sz45]; rfl)) ?_)
    | (go_at_call 62; refine (is_c w1 dv wv D i hD H1.out).mono ?_; rintro e w2 ⟨rfl, hF2⟩; have HF2 := Lib.hid hF2; clear hF2)
    | fail)
  go_ret2
  exact ⟨rfl, HF1.out.trans HF2.out (fun _ _ h => h)⟩

set_option maxRecDepth 100000 in
theorem RRead_ok (w : World) (dv wv : Value) (D : Dsk) (i : Int) (hD : Dok D) (h : RefAt w dv wv D) (hd : D.down = false) (hh : D.has i = true) :
    Calls Try.prog 48 #[.agg (refL dv wv D).toArray, .int .i64 i] w fun e w' => ∃ g cap, e = .returned (.tuple #[.slice (some ⟨g, 0, none⟩) 256 cap, .int .i64 0]) ∧ OwnB w' (.slice (some ⟨g, 0, none⟩) 256 cap) (D.see i).1 ∧ Fr Non w w' ∧ w.heap.size ≤ g := by
  have hi : 0 ≤ i ∧ i < D.n := by unfold Dsk.has at hh; exact of_decide_eq_true hh
  obtain ⟨j, rfl⟩ : ∃ j : Nat, i = j := ⟨i.toNat, by omega⟩
  obtain ⟨w1, hw1⟩ : ∃ w1, w.alloc (.cells (refL dv wv D).toArray 45) = w1 := ⟨_, rfl⟩
  have hF1 : Fr Non w w1 := by rw [← hw1]; exact (Fr.refl _ w).alloc _
  have hb1 : w1.heap[w.heap.size]? = some (.cells (refL dv wv D).toArray 45) := by rw [← hw1]; exact heap_alloc_new w _
  have c3 : w1.cell? ⟨w.heap.size, 3, none⟩ = some (.bool false) := by rw [← hd]; exact cellOf hb1 3 rfl
  have HF1 := Lib.hid hF1
  have HR1 := Lib.hid (rangeAt_of hb1 0 (refL dv wv D) (by simp))
  have H1 := Lib.hid (h.non hF1)
  have HB1 := Lib.hid hb1
  have HI := Lib.hid hi
  clear hF1 hb1 h hd hi
  go_enter Try.func48, Try.ntmps48
  go_wp2_with (first
    | (guard_target =~ wpList _ _ _ (⟨_, Op.box 45 _, _, _, _, _⟩ :: _) _ _; refine wl rfl (r_boxA rfl rfl) ?_; rw [hw1])
    | (guard_target =~ wpList _ _ _ (⟨_, Op.load 45 _, _, _, _, _⟩ :: _) _ w1; refine wl rfl (r_load (b := w.heap.size) (i := 0) rfl rfl HR1.out Try.underlying45 rfl (by rw [sz45]; rfl)) ?_)
    | (go_at_call 62; refine (is_c w1 dv wv D j hD H1.out).mono ?_; rintro e w2 ⟨rfl, hF2⟩; have HF2 := Lib.hid hF2; have HR2 := Lib.hid (rangeAt_of (hF2.keep HB1.out (fun h => h)) 0 (refL dv wv D) (by simp)); clear hF2)
    | (guard_target =~ wpList _ _ _ (⟨_, Op.load 45 _, _, _, _, _⟩ :: _) _ _; refine wl rfl (r_load (b := w.heap.size) (i := 0) rfl rfl HR2.out Try.underlying45 rfl (by rw [sz45]; rfl)) ?_)
    | (go_at_call 27; refine (Visible_ref w2 dv wv D j hD HI.out.2 (H1.out.non HF2.out)).mono ?_; rintro e w3 ⟨g, cap, rfl, ho, hF3, hg⟩; have HO := Lib.hid ho; have HF3 := Lib.hid hF3; have HG := Lib.hid hg; clear ho hF3 hg)
    | fail)
  go_ret2
  exact ⟨g, cap, rfl, HO.out, (HF1.out.trans HF2.out (fun _ _ h => h)).trans HF3.out (fun _ _ h => h), Nat.le_trans (Nat.le_trans HF1.out.size HF2.out.size) HG.out⟩
end Go.Proofs.Yticgkbpmaakkiaa
