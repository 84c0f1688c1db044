/-
  slices.Equal over identities.
-/
import Derived.Test.YtfemaeacmnhdlaaVI
namespace Go.Proofs.Ytfemaeacmnhdlaa
open Go.RowKit

set_option maxRecDepth 100000 in
theorem Equal81 (w : World) (a : Option Addr) (cap : Nat) (l : List Id) (a2 : Option Addr) (cap2 : Nat) (m : List Id) (hl : l.length ≤ 1000000) (h : AtL w a 32 idC l) (h2 : AtL w a2 32 idC m) :
    Calls Try.prog 81 #[.slice a l.length cap, .slice a2 m.length cap2] w fun e w' => e = .returned (.bool (decide (l = m))) ∧ Fr Non w w' := by
  by_cases hlen : l.length = m.length
  · rw [← hlen]
    have HE := Lib.hid hlen
    have H := Lib.hid h
    have H2 := Lib.hid h2
    have HL := Lib.hid hl
    clear hlen h h2 hl
    go_enter Try.func81, Try.ntmps81
    go_wp2
    go_loopw [13] (fun i wr => ∃ k : Nat, i = .int .i64 k ∧ k ≤ l.length ∧ l.take k = m.take k ∧ Fr Non w wr) (fun i _ => l.length - (intOf i).toNat)
    case atStart => exact ⟨0, rfl, Nat.zero_le _, by simp, Fr.refl _ _⟩
    case round =>
      obtain ⟨k, rfl, hk, hno, hF⟩ := hrel
      have HF := Lib.hid hF
      have HNO := Lib.hid hno
      clear hF hno
      by_cases hlt : k < l.length
      · obtain ⟨y, hy⟩ : ∃ y, l[k]? = some y := ⟨_, List.getElem?_eq_getElem hlt⟩
        obtain ⟨z, hz⟩ : ∃ z, m[k]? = some z := ⟨_, List.getElem?_eq_getElem (by have := HE.out; omega)⟩
        obtain ⟨b, o, rfl, hr⟩ := (H.out.non HF.out).get hy
        obtain ⟨b2, o2, rfl, hr2⟩ := (H2.out.non HF.out).get hz
        have HY := Lib.hid (show wr.drew.rangeAt b (o + k * 32) (idC y) from hr)
        have HZ := Lib.hid (show wr.drew.rangeAt b2 (o2 + k * 32) (idC z) from hr2)
        have HYY := Lib.hid (And.intro hy hz)
        have hk9 : (k : Int) ≤ 1000000 := by have := HL.out; omega
        have HLT := Lib.hid hlt
        clear hr hr2 hy hz
        go_wp2_with fail
        refine rc (fun W : World => W.rangeAt b (o + k * 32) (idC y) ∧ W.rangeAt b2 (o2 + k * 32) (idC z)) 8 (by kernel_rfl) ?_
        have hS : (fun W : World => W.rangeAt b (o + k * 32) (idC y) ∧ W.rangeAt b2 (o2 + k * 32) (idC z)) wr.drew := ⟨HY.out, HZ.out⟩
        refine tp (i := 0) (v := .slice (some ⟨b, o, none⟩) l.length cap) rfl (by kernel_rfl) (fun _ _ _ h => h) rfl (fun W0 => r_move rfl rfl) (.inr hS) ?_
        simp only [Act.put, List.setIfInBounds_toArray, List.set_cons_zero, List.set_cons_succ]
        refine tp (i := 1) (v := .int .i64 (k : Int)) rfl (by kernel_rfl) (fun _ _ _ h => h) rfl (fun W0 => r_move rfl rfl) (.inr hS) ?_
        simp only [Act.put, List.setIfInBounds_toArray, List.set_cons_zero, List.set_cons_succ]
        refine tp (i := 2) (v := .pointer (some ⟨b, o + k * 32, none⟩)) rfl (by kernel_rfl) (fun _ _ _ h => h) rfl (fun W0 => by unfold RunV; go_simp) (.inr hS) ?_
        simp only [Act.put, List.setIfInBounds_toArray, List.set_cons_zero, List.set_cons_succ]
        refine tp (i := 4) (v := .slice (some ⟨b2, o2, none⟩) l.length cap2) rfl (by kernel_rfl) (fun _ _ _ h => h) rfl (fun W0 => r_move rfl rfl) (.inr hS) ?_
        simp only [Act.put, List.setIfInBounds_toArray, List.set_cons_zero, List.set_cons_succ]
        refine tp (i := 5) (v := .int .i64 (k : Int)) rfl (by kernel_rfl) (fun _ _ _ h => h) rfl (fun W0 => r_move rfl rfl) (.inr hS) ?_
        simp only [Act.put, List.setIfInBounds_toArray, List.set_cons_zero, List.set_cons_succ]
        refine tp (i := 6) (v := .pointer (some ⟨b2, o2 + k * 32, none⟩)) rfl (by kernel_rfl) (fun _ _ _ h => h) rfl (fun W0 => by unfold RunV; go_simp) (.inr hS) ?_
        simp only [Act.put, List.setIfInBounds_toArray, List.set_cons_zero, List.set_cons_succ]
        refine tc (i := 3) (v := .agg (idC y).toArray) rfl 8 (by kernel_rfl) (fun _ _ _ h => h) rfl (fun W0 hw => r_load (b := b) (i := o + k * 32) rfl rfl hw.1 Try.underlying31 rfl (by rw [sz31, idC_length])) hS ?_
        simp only [Act.put, List.setIfInBounds_toArray, List.set_cons_zero, List.set_cons_succ]
        refine tc (i := 7) (v := .agg (idC z).toArray) rfl 8 (by kernel_rfl) (fun _ _ _ h => h) rfl (fun W0 hw => r_load (b := b2) (i := o2 + k * 32) rfl rfl hw.2 Try.underlying31 rfl (by rw [sz31, idC_length])) hS ?_
        simp only [Act.put, List.setIfInBounds_toArray, List.set_cons_zero, List.set_cons_succ]
        refine oc2 (i := 8) (v := .bool (!decide (y = z))) rfl (by kernel_rfl) rfl (by kernel_rfl) (r_eql rfl rfl rfl (guard31 _ _ _ _ _ _) (neq31 y z _)) ?_
        simp only [Act.put, List.setIfInBounds_toArray, List.set_cons_zero, List.set_cons_succ]
        refine dc (by kernel_rfl) ?_
        clear hS
        by_cases e : y = z
        · have e1 : decide (y = z) = true := decide_eq_true e
          rw [e1]
          clear e1
          have e2 := Lib.hid (take_eq_of HNO.out HYY.out.1 HYY.out.2 e)
          clear e
          go_wp2
          go_roundw
          case rel => exact ⟨k + 1, by go_num, by have := HLT.out; omega, e2.out, HF.out.drew⟩
          case measure => have := HLT.out; simp [intOf] <;> omega
        · have e1 : decide (y = z) = false := decide_eq_false e
          rw [e1]
          clear e1
          have e2 : Hid (l ≠ m) := fun h => e (by have h1 := HYY.out.1; have h2 := HYY.out.2; rw [h] at h1; rw [h1] at h2; exact Option.some.inj h2)
          clear e
          go_wp2
          go_ret
          exact ⟨by rw [decide_eq_false e2.out]; rfl, HF.out.drew⟩
      · obtain rfl : k = l.length := by omega
        rw [List.take_length, HE.out, List.take_length] at HNO
        go_wp2
        go_ret
        exact ⟨by rw [decide_eq_true HNO.out]; rfl, HF.out⟩
  · have hne : Hid (l ≠ m) := fun e => hlen (by rw [e])
    have e1 : ((l.length : Int) == (m.length : Int)) = false := by simp; omega
    clear hlen h h2 hl
    go_enter Try.func81, Try.ntmps81
    go_wp2
    go_ret
    exact ⟨by rw [decide_eq_false hne.out]; rfl, Fr.refl _ _⟩
end Go.Proofs.Ytfemaeacmnhdlaa
