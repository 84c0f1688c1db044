/-
  The law's small functions: has, row, equal, few, check.
-/
import Derived.Test.YtfemaeacmnhdlaaV0
namespace Go.Proofs.Ytfemaeacmnhdlaa
open Go.RowKit

theorem mem_take_succ {α : Type} {l : List α} {k : Nat} {y : α} (h : l[k]? = some y) (x : α) : x ∈ l.take (k + 1) ↔ x ∈ l.take k ∨ x = y := by
  rw [List.take_add_one, h]; simp
theorem idC_of_row {w : World} {b o : Nat} {r : Row} (h : w.rangeAt b o (rowC r)) : w.rangeAt b o (idC r.id) := fun j v hv => h j v (rowC_id r j v hv)

set_option maxRecDepth 100000 in
theorem has_c (w : World) (a : Option Addr) (cap : Nat) (l : List Id) (x : Id) (hl : l.length ≤ 1000000) (h : AtL w a 32 idC l) :
    Calls Try.prog 23 #[.slice a l.length cap, .agg (idC x).toArray] w fun e w' => e = .returned (.bool (decide (x ∈ l))) ∧ Fr Non w w' := by
  have hb1 := heap_alloc_new w (.cells (idC x).toArray 31)
  have hF1 : Fr Non w (w.alloc (.cells (idC x).toArray 31)) := (Fr.refl _ w).alloc _
  have HB1 := Lib.hid hb1
  have HF1 := Lib.hid hF1
  have H := Lib.hid h
  have HL := Lib.hid hl
  clear hb1 hF1 h hl
  go_enter Try.func23, Try.ntmps23
  go_wp2_with (first
    | (guard_target =~ wpList _ _ _ (⟨_, Op.box 31 _, _, _, _, _⟩ :: _) _ _; refine wl rfl (r_boxA (cs := (idC x).toArray) rfl rfl) ?_; generalize w.alloc (.cells (idC x).toArray 31) = w1 at *)
    | fail)
  go_loopw [5] (fun i wr => ∃ k : Nat, i = .int .i64 k ∧ k ≤ l.length ∧ x ∉ l.take k ∧ Fr Non w1 wr) (fun i _ => l.length - (intOf i).toNat)
  case atStart => exact ⟨0, rfl, Nat.zero_le _, by simp, Fr.refl _ _⟩
  case round =>
    obtain ⟨k, rfl, hk, hno, hF⟩ := hrel
    have HF := Lib.hid hF
    have HNO := Lib.hid hno
    clear hF hno
    by_cases hlt : k < l.length
    · obtain ⟨y, hy⟩ : ∃ y, l[k]? = some y := ⟨_, List.getElem?_eq_getElem hlt⟩
      obtain ⟨b, o, rfl, hr⟩ := (H.out.non (HF1.out.trans HF.out (fun _ _ h => h))).get hy
      have HY := Lib.hid (show wr.drew.rangeAt b (o + k * 32) (idC y) from hr)
      have HX := Lib.hid (show wr.drew.rangeAt w.heap.size 0 (idC x) from rangeAt_of (w := wr.drew) (HF.out.keep HB1.out (fun h => h)) 0 _ (by simp))
      have HM := Lib.hid (mem_take_succ hy x)
      have HMY := Lib.hid (List.mem_of_getElem? hy)
      have hk9 : (k : Int) ≤ 1000000 := by have := HL.out; omega
      have HLT := Lib.hid hlt
      clear hr hy
      go_wp2_with fail
      refine rc (fun W : World => W.rangeAt b (o + k * 32) (idC y) ∧ W.rangeAt w.heap.size 0 (idC x)) 5 (by kernel_rfl) ?_
      have hS : (fun W : World => W.rangeAt b (o + k * 32) (idC y) ∧ W.rangeAt w.heap.size 0 (idC x)) wr.drew := ⟨HY.out, HX.out⟩
      refine tp (i := 0) (v := .slice (some ⟨b, o, none⟩) l.length cap) rfl (by kernel_rfl) (fun _ _ _ h => h) rfl (fun W0 => r_move rfl rfl) (.inr hS) ?_
      simp only [Act.put, List.setIfInBounds_toArray, List.set_cons_zero, List.set_cons_succ]
      refine tp (i := 1) (v := .int .i64 (k : Int)) rfl (by kernel_rfl) (fun _ _ _ h => h) rfl (fun W0 => r_move rfl rfl) (.inr hS) ?_
      simp only [Act.put, List.setIfInBounds_toArray, List.set_cons_zero, List.set_cons_succ]
      refine tp (i := 2) (v := .pointer (some ⟨b, o + k * 32, none⟩)) rfl (by kernel_rfl) (fun _ _ _ h => h) rfl (fun W0 => by unfold RunV; go_simp) (.inr hS) ?_
      simp only [Act.put, List.setIfInBounds_toArray, List.set_cons_zero, List.set_cons_succ]
      refine tc (i := 3) (v := .agg (idC y).toArray) rfl 8 (by kernel_rfl) (fun _ _ _ h => h) rfl (fun W0 hw => r_load (b := b) (i := o + k * 32) rfl rfl hw.1 Try.underlying31 rfl (by rw [sz31, idC_length])) hS ?_
      simp only [Act.put, List.setIfInBounds_toArray, List.set_cons_zero, List.set_cons_succ]
      refine tc (i := 4) (v := .agg (idC x).toArray) rfl 8 (by kernel_rfl) (fun _ _ _ h => h) rfl (fun W0 hw => r_load (b := w.heap.size) (i := 0) rfl rfl hw.2 Try.underlying31 rfl (by rw [sz31, idC_length])) hS ?_
      simp only [Act.put, List.setIfInBounds_toArray, List.set_cons_zero, List.set_cons_succ]
      refine oc2 (i := 5) (v := .bool (decide (y = x))) rfl (by kernel_rfl) rfl (by kernel_rfl) (r_eql rfl rfl rfl (guard31 _ _ _ _ _ _) (eq31 y x _)) ?_
      simp only [Act.put, List.setIfInBounds_toArray, List.set_cons_zero, List.set_cons_succ]
      refine dc (by kernel_rfl) ?_
      clear hS
      by_cases e : y = x
      · have e1 : decide (y = x) = true := decide_eq_true e
        rw [e1]
        clear e1
        have e2 : Hid (x ∈ l) := e ▸ HMY.out
        clear e
        go_wp2
        go_ret
        exact ⟨by rw [decide_eq_true e2.out]; rfl, (HF1.out.trans HF.out (fun _ _ h => h)).drew⟩
      · have e1 : decide (y = x) = false := decide_eq_false e
        rw [e1]
        clear e1
        have e2 := Lib.hid e
        clear e
        go_wp2
        go_roundw
        case rel => exact ⟨k + 1, by go_num, by have := HLT.out; omega, fun h => (HM.out.1 h).elim HNO.out (fun h => e2.out h.symm), HF.out.drew⟩
        case measure => have := HLT.out; simp [intOf] <;> omega
    · obtain rfl : k = l.length := by omega
      rw [List.take_length] at HNO
      go_wp2
      go_ret
      exact ⟨by rw [decide_eq_false HNO.out]; rfl, HF1.out.trans HF.out (fun _ _ h => h)⟩

/-- the index of an identity -/
def rowIx (l : List Row) (x : Id) : Option Nat := l.findIdx? fun r => decide (r.id = x)
def ixI : Option Nat → Int
  | some i => i
  | none => -1
theorem rowIx_some {l : List Row} {k : Nat} {y : Row} (hy : l[k]? = some y) {x : Id} (hno : ∀ r ∈ l.take k, r.id ≠ x) (e : y.id = x) : rowIx l x = some k := by
  unfold rowIx
  rw [List.findIdx?_eq_some_iff_getElem]
  obtain ⟨hk, rfl⟩ := List.getElem?_eq_some_iff.1 hy
  refine ⟨hk, by simpa using e, fun j hj => ?_⟩
  have := hno l[j] (by rw [List.mem_take_iff_getElem]; exact ⟨j, by omega, rfl⟩)
  simpa using this
theorem rowIx_none {l : List Row} {x : Id} : rowIx l x = none ↔ ∀ r ∈ l, r.id ≠ x := by
  unfold rowIx
  rw [List.findIdx?_eq_none_iff]
  simp
theorem ixI_nonneg (o : Option Nat) : (0 ≤ ixI o) ↔ o.isSome = true := by
  cases o with
  | none => simp [ixI]
  | some i => simp [ixI]

set_option maxRecDepth 100000 in
theorem row_c (w : World) (a : Option Addr) (cap : Nat) (l : List Row) (x : Id) (hl : l.length ≤ 1000000) (h : AtL w a 83 rowC l) :
    Calls Try.prog 24 #[.slice a l.length cap, .agg (idC x).toArray] w fun e w' => e = .returned (.int .i64 (ixI (rowIx l x))) ∧ Fr Non w w' := by
  have hb1 := heap_alloc_new w (.cells (idC x).toArray 31)
  have hF1 : Fr Non w (w.alloc (.cells (idC x).toArray 31)) := (Fr.refl _ w).alloc _
  have HB1 := Lib.hid hb1
  have HF1 := Lib.hid hF1
  have H := Lib.hid h
  have HL := Lib.hid hl
  clear hb1 hF1 h hl
  go_enter Try.func24, Try.ntmps24
  go_wp2_with (first
    | (guard_target =~ wpList _ _ _ (⟨_, Op.box 31 _, _, _, _, _⟩ :: _) _ _; refine wl rfl (r_boxA (cs := (idC x).toArray) rfl rfl) ?_; generalize w.alloc (.cells (idC x).toArray 31) = w1 at *)
    | fail)
  go_loopw [5] (fun i wr => ∃ k : Nat, i = .int .i64 k ∧ k ≤ l.length ∧ (∀ r ∈ l.take k, r.id ≠ x) ∧ Fr Non w1 wr) (fun i _ => l.length - (intOf i).toNat)
  case atStart => exact ⟨0, rfl, Nat.zero_le _, by simp, Fr.refl _ _⟩
  case round =>
    obtain ⟨k, rfl, hk, hno, hF⟩ := hrel
    have HF := Lib.hid hF
    have HNO := Lib.hid hno
    clear hF hno
    by_cases hlt : k < l.length
    · obtain ⟨y, hy⟩ : ∃ y, l[k]? = some y := ⟨_, List.getElem?_eq_getElem hlt⟩
      obtain ⟨b, o, rfl, hr⟩ := (H.out.non (HF1.out.trans HF.out (fun _ _ h => h))).get hy
      have HY := Lib.hid (show wr.drew.rangeAt b (o + k * 83) (idC y.id) from idC_of_row hr)
      have HX := Lib.hid (show wr.drew.rangeAt w.heap.size 0 (idC x) from rangeAt_of (w := wr.drew) (HF.out.keep HB1.out (fun h => h)) 0 _ (by simp))
      have HM := Lib.hid (mem_take_succ hy)
      have HYY := Lib.hid hy
      have hk9 : (k : Int) ≤ 1000000 := by have := HL.out; omega
      have HLT := Lib.hid hlt
      clear hr hy
      go_wp2_with fail
      refine rc (fun W : World => W.rangeAt b (o + k * 83) (idC y.id) ∧ W.rangeAt w.heap.size 0 (idC x)) 6 (by kernel_rfl) ?_
      have hS : (fun W : World => W.rangeAt b (o + k * 83) (idC y.id) ∧ W.rangeAt w.heap.size 0 (idC x)) wr.drew := ⟨HY.out, HX.out⟩
      refine tp (i := 0) (v := .slice (some ⟨b, o, none⟩) l.length cap) rfl (by kernel_rfl) (fun _ _ _ h => h) rfl (fun W0 => r_move rfl rfl) (.inr hS) ?_
      simp only [Act.put, List.setIfInBounds_toArray, List.set_cons_zero, List.set_cons_succ]
      refine tp (i := 1) (v := .int .i64 (k : Int)) rfl (by kernel_rfl) (fun _ _ _ h => h) rfl (fun W0 => r_move rfl rfl) (.inr hS) ?_
      simp only [Act.put, List.setIfInBounds_toArray, List.set_cons_zero, List.set_cons_succ]
      refine tp (i := 2) (v := .pointer (some ⟨b, o + k * 83, none⟩)) rfl (by kernel_rfl) (fun _ _ _ h => h) rfl (fun W0 => by unfold RunV; go_simp) (.inr hS) ?_
      simp only [Act.put, List.setIfInBounds_toArray, List.set_cons_zero, List.set_cons_succ]
      refine tp (i := 3) (v := .pointer (some ⟨b, o + k * 83, none⟩)) rfl (by kernel_rfl) (fun _ _ _ h => h) rfl (fun W0 => by unfold RunV; go_simp) (.inr hS) ?_
      simp only [Act.put, List.setIfInBounds_toArray, List.set_cons_zero, List.set_cons_succ]
      refine tc (i := 4) (v := .agg (idC y.id).toArray) rfl 8 (by kernel_rfl) (fun _ _ _ h => h) rfl (fun W0 hw => r_load (b := b) (i := o + k * 83) rfl rfl hw.1 Try.underlying31 rfl (by rw [sz31, idC_length])) hS ?_
      simp only [Act.put, List.setIfInBounds_toArray, List.set_cons_zero, List.set_cons_succ]
      refine tc (i := 5) (v := .agg (idC x).toArray) rfl 8 (by kernel_rfl) (fun _ _ _ h => h) rfl (fun W0 hw => r_load (b := w.heap.size) (i := 0) rfl rfl hw.2 Try.underlying31 rfl (by rw [sz31, idC_length])) hS ?_
      simp only [Act.put, List.setIfInBounds_toArray, List.set_cons_zero, List.set_cons_succ]
      refine oc2 (i := 6) (v := .bool (decide (y.id = x))) rfl (by kernel_rfl) rfl (by kernel_rfl) (r_eql rfl rfl rfl (guard31 _ _ _ _ _ _) (eq31 y.id x _)) ?_
      simp only [Act.put, List.setIfInBounds_toArray, List.set_cons_zero, List.set_cons_succ]
      refine dc (by kernel_rfl) ?_
      clear hS
      by_cases e : y.id = x
      · have e1 : decide (y.id = x) = true := decide_eq_true e
        rw [e1]
        clear e1
        have e2 := Lib.hid (rowIx_some HYY.out HNO.out e)
        clear e
        go_wp2
        go_ret
        exact ⟨by rw [e2.out]; rfl, (HF1.out.trans HF.out (fun _ _ h => h)).drew⟩
      · have e1 : decide (y.id = x) = false := decide_eq_false e
        rw [e1]
        clear e1
        have e2 := Lib.hid e
        clear e
        go_wp2
        go_roundw
        case rel => exact ⟨k + 1, by go_num, by have := HLT.out; omega, fun r h => ((HM.out r).1 h).elim (HNO.out r) (fun h => h ▸ e2.out), HF.out.drew⟩
        case measure => have := HLT.out; simp [intOf] <;> omega
    · obtain rfl : k = l.length := by omega
      rw [List.take_length] at HNO
      go_wp2
      go_ret
      exact ⟨by rw [rowIx_none.2 HNO.out]; rfl, HF1.out.trans HF.out (fun _ _ h => h)⟩

theorem take_eq_of {α : Type} {l m : List α} {k : Nat} {y z : α} (h : l.take k = m.take k) (hy : l[k]? = some y) (hz : m[k]? = some z) (e : y = z) : l.take (k + 1) = m.take (k + 1) := by
  rw [List.take_add_one, List.take_add_one, h, hy, hz, e]

set_option maxRecDepth 100000 in
theorem equal_c (w : World) (a : Option Addr) (cap : Nat) (l : List Id) (a2 : Option Addr) (cap2 : Nat) (m : List Id) (hl : l.length ≤ 1000000) (h : AtL w a 32 idC l) (h2 : AtL w a2 32 idC m) :
    Calls Try.prog 49 #[.slice a l.length cap, .slice a2 m.length cap2] w fun e w' => e = .returned (.bool (decide (l = m))) ∧ Fr Non w w' := by
  by_cases hlen : l.length = m.length
  · rw [← hlen]
    have HE := Lib.hid hlen
    have H := Lib.hid h
    have H2 := Lib.hid h2
    have HL := Lib.hid hl
    clear hlen h h2 hl
    go_enter Try.func49, Try.ntmps49
    go_wp2
    go_loopw [5] (fun i wr => ∃ k : Nat, i = .int .i64 k ∧ k ≤ l.length ∧ l.take k = m.take k ∧ Fr Non w wr) (fun i _ => l.length - (intOf i).toNat)
    case atStart => exact ⟨0, rfl, Nat.zero_le _, by simp, Fr.refl _ _⟩
    case round =>
      obtain ⟨k, rfl, hk, hno, hF⟩ := hrel
      have HF := Lib.hid hF
      have HNO := Lib.hid hno
      clear hF hno
      by_cases hlt : k < l.length
      · obtain ⟨y, hy⟩ : ∃ y, l[k]? = some y := ⟨_, List.getElem?_eq_getElem hlt⟩
        obtain ⟨z, hz⟩ : ∃ z, m[k]? = some z := ⟨_, List.getElem?_eq_getElem (by have := HE.out; omega)⟩
        obtain ⟨b, o, rfl, hr⟩ := (H.out.non HF.out).get hy
        obtain ⟨b2, o2, rfl, hr2⟩ := (H2.out.non HF.out).get hz
        have HY := Lib.hid (show wr.drew.rangeAt b (o + k * 32) (idC y) from hr)
        have HZ := Lib.hid (show wr.drew.rangeAt b2 (o2 + k * 32) (idC z) from hr2)
        have HYY := Lib.hid (And.intro hy hz)
        have hk9 : (k : Int) ≤ 1000000 := by have := HL.out; omega
        have HLT := Lib.hid hlt
        clear hr hr2 hy hz
        go_wp2_with fail
        refine rc (fun W : World => W.rangeAt b (o + k * 32) (idC y) ∧ W.rangeAt b2 (o2 + k * 32) (idC z)) 8 (by kernel_rfl) ?_
        have hS : (fun W : World => W.rangeAt b (o + k * 32) (idC y) ∧ W.rangeAt b2 (o2 + k * 32) (idC z)) wr.drew := ⟨HY.out, HZ.out⟩
        refine tp (i := 0) (v := .slice (some ⟨b, o, none⟩) l.length cap) rfl (by kernel_rfl) (fun _ _ _ h => h) rfl (fun W0 => r_move rfl rfl) (.inr hS) ?_
        simp only [Act.put, List.setIfInBounds_toArray, List.set_cons_zero, List.set_cons_succ]
        refine tp (i := 1) (v := .int .i64 (k : Int)) rfl (by kernel_rfl) (fun _ _ _ h => h) rfl (fun W0 => r_move rfl rfl) (.inr hS) ?_
        simp only [Act.put, List.setIfInBounds_toArray, List.set_cons_zero, List.set_cons_succ]
        refine tp (i := 2) (v := .pointer (some ⟨b, o + k * 32, none⟩)) rfl (by kernel_rfl) (fun _ _ _ h => h) rfl (fun W0 => by unfold RunV; go_simp) (.inr hS) ?_
        simp only [Act.put, List.setIfInBounds_toArray, List.set_cons_zero, List.set_cons_succ]
        refine tp (i := 4) (v := .slice (some ⟨b2, o2, none⟩) l.length cap2) rfl (by kernel_rfl) (fun _ _ _ h => h) rfl (fun W0 => r_move rfl rfl) (.inr hS) ?_
        simp only [Act.put, List.setIfInBounds_toArray, List.set_cons_zero, List.set_cons_succ]
        refine tp (i := 5) (v := .int .i64 (k : Int)) rfl (by kernel_rfl) (fun _ _ _ h => h) rfl (fun W0 => r_move rfl rfl) (.inr hS) ?_
        simp only [Act.put, List.setIfInBounds_toArray, List.set_cons_zero, List.set_cons_succ]
        refine tp (i := 6) (v := .pointer (some ⟨b2, o2 + k * 32, none⟩)) rfl (by kernel_rfl) (fun _ _ _ h => h) rfl (fun W0 => by unfold RunV; go_simp) (.inr hS) ?_
        simp only [Act.put, List.setIfInBounds_toArray, List.set_cons_zero, List.set_cons_succ]
        refine tc (i := 3) (v := .agg (idC y).toArray) rfl 8 (by kernel_rfl) (fun _ _ _ h => h) rfl (fun W0 hw => r_load (b := b) (i := o + k * 32) rfl rfl hw.1 Try.underlying31 rfl (by rw [sz31, idC_length])) hS ?_
        simp only [Act.put, List.setIfInBounds_toArray, List.set_cons_zero, List.set_cons_succ]
        refine tc (i := 7) (v := .agg (idC z).toArray) rfl 8 (by kernel_rfl) (fun _ _ _ h => h) rfl (fun W0 hw => r_load (b := b2) (i := o2 + k * 32) rfl rfl hw.2 Try.underlying31 rfl (by rw [sz31, idC_length])) hS ?_
        simp only [Act.put, List.setIfInBounds_toArray, List.set_cons_zero, List.set_cons_succ]
        refine oc2 (i := 8) (v := .bool (!decide (y = z))) rfl (by kernel_rfl) rfl (by kernel_rfl) (r_eql rfl rfl rfl (guard31 _ _ _ _ _ _) (neq31 y z _)) ?_
        simp only [Act.put, List.setIfInBounds_toArray, List.set_cons_zero, List.set_cons_succ]
        refine dc (by kernel_rfl) ?_
        clear hS
        by_cases e : y = z
        · have e1 : decide (y = z) = true := decide_eq_true e
          rw [e1]
          clear e1
          have e2 := Lib.hid (take_eq_of HNO.out HYY.out.1 HYY.out.2 e)
          clear e
          go_wp2
          go_roundw
          case rel => exact ⟨k + 1, by go_num, by have := HLT.out; omega, e2.out, HF.out.drew⟩
          case measure => have := HLT.out; simp [intOf] <;> omega
        · have e1 : decide (y = z) = false := decide_eq_false e
          rw [e1]
          clear e1
          have e2 : Hid (l ≠ m) := fun h => e (by have h1 := HYY.out.1; have h2 := HYY.out.2; rw [h] at h1; rw [h1] at h2; exact Option.some.inj h2)
          clear e
          go_wp2
          go_ret
          exact ⟨by rw [decide_eq_false e2.out]; rfl, HF.out.drew⟩
      · obtain rfl : k = l.length := by omega
        rw [List.take_length, HE.out, List.take_length] at HNO
        go_wp2
        go_ret
        exact ⟨by rw [decide_eq_true HNO.out]; rfl, HF.out⟩
  · have hne : Hid (l ≠ m) := fun e => hlen (by rw [e])
    have e1 : ((l.length : Int) == (m.length : Int)) = false := by simp; omega
    clear hlen h h2 hl
    go_enter Try.func49, Try.ntmps49
    go_wp2
    go_ret
    exact ⟨by rw [decide_eq_false hne.out]; rfl, Fr.refl _ _⟩
end Go.Proofs.Ytfemaeacmnhdlaa
