/-
  VisibilityHole.
-/
import Derived.Test.YtfemaeacmnhdlaaVH
namespace Go.Proofs.Ytfemaeacmnhdlaa
open Go.RowKit

theorem own_cap {α : Type} {w : World} {e : TypeId} {k : Nat} {enc : α → List Value} {g n cap : Nat} {l : List α} (h : Own w e k enc (.slice (some ⟨g, 0, none⟩) n cap) l) : n ≤ cap := by
  obtain ⟨_, _, e, hc, _⟩ := Own.shape h
  obtain ⟨-, rfl, rfl⟩ := Value.slice.inj e
  exact hc
theorem check2_t (w : World) (a : Option Addr) (cap : Nat) (l : List Row) (r : Row) (hl : l.length ≤ 30) (hcap : l.length + 1 ≤ cap) (h : AtL w a 83 rowC (l ++ [r])) (hg : Good (l ++ [r])) :
    Calls Try.prog 21 #[.slice a (l.length + 1) cap] w fun e w' => e = .returned (.int .i64 0) ∧ Fr Non w w' := by
  have e1 : (l ++ [r]).length = l.length + 1 := by simp
  have := check_c w a cap (l ++ [r]) (by omega) (by omega) h
  rw [e1] at this
  exact this.mono fun _ _ ⟨h1, h2⟩ => ⟨h1.elim (·.1) (fun ⟨_, _, _, hn⟩ => absurd hg hn), h2⟩
theorem check2_f (w : World) (a : Option Addr) (cap : Nat) (l : List Row) (r : Row) (hl : l.length ≤ 30) (hcap : l.length + 1 ≤ cap) (h : AtL w a 83 rowC (l ++ [r])) (hg : ¬ Good (l ++ [r])) :
    Calls Try.prog 21 #[.slice a (l.length + 1) cap] w fun e w' => ∃ c : Int, e = .returned (.int .i64 c) ∧ (c == 0) = false ∧ Fr Non w w' := by
  have e1 : (l ++ [r]).length = l.length + 1 := by simp
  have := check_c w a cap (l ++ [r]) (by omega) (by omega) h
  rw [e1] at this
  exact this.mono fun _ _ ⟨h1, h2⟩ => by
    rcases h1 with ⟨_, h⟩ | ⟨c, hc, h0, _⟩
    · exact absurd h hg
    · exact ⟨c, hc, h0, h2⟩

set_option maxRecDepth 100000 in
theorem hole_few (w : World) (a : Option Addr) (cap : Nat) (l : List Row) (ga : Option Addr) (gc : Nat) (g : List Id) (now : Int) (r : Row) (hl : l.length ≤ 9223372036854775807) (h : AtL w a 83 rowC l) (hr : RefsAt w l) (h2 : AtL w ga 32 idC g) (hrr : AtL w r.ra 32 idC r.refs) (hf : ¬ Few l g) :
    Calls Try.prog 5 #[.slice a l.length cap, .slice ga g.length gc, .int .i64 now, .agg (rowC r).toArray] w fun e w' => e = .returned (.bool true) ∧ Fr Non w w' := by
  have HL := Lib.hid hl
  have hb0 := heap_alloc_new w (.cells (rowC r).toArray 36)
  have hF0 : Fr Non w (w.alloc (.cells (rowC r).toArray 36)) := (Fr.refl _ w).alloc _
  obtain ⟨w0, hw0⟩ : ∃ w0, w.alloc (.cells (rowC r).toArray 36) = w0 := ⟨_, rfl⟩
  rw [hw0] at hb0 hF0
  obtain ⟨b0, hbb0⟩ : ∃ b, w.heap.size = b := ⟨_, rfl⟩
  rw [hbb0] at hb0
  have H := Lib.hid (h.non hF0)
  have HR := Lib.hid (hr.non hF0)
  have H2 := Lib.hid (h2.non hF0)
  have HRR := Lib.hid (hrr.non hF0)
  have HB0 := Lib.hid hb0
  have HF0 := Lib.hid hF0
  clear h hl hr h2 hrr hb0 hF0
  have HF := Lib.hid hf
  clear hf
  go_enter Try.func5, Try.ntmps5
  go_wp2_with (first
    | (guard_target =~ wpList _ _ _ (⟨_, Op.box 36 _, _, _, _, _⟩ :: _) _ _; refine wl rfl (r_boxA (cs := (rowC r).toArray) rfl rfl) ?_; rw [hw0, hbb0]; simp only [Act.put, List.setIfInBounds_toArray, List.set_cons_zero, List.set_cons_succ])
    | fail)
  refine (known_c w0).mono ?_
  rintro e w1 ⟨rfl, hF1⟩
  have HK := Lib.hid (few_f w1 a cap l ga gc g HL.out (H.out.non hF1) HF.out)
  have hc1 : w1.cell? ⟨b0, 50, none⟩ = some (.slice r.ra r.refs.length r.rc) := cellOf (hF1.keep HB0.out (fun h => h)) 50 (by simpa using rowC_refs r)
  have HB1 := Lib.hid (hF1.keep HB0.out (fun h => h))
  have HF1 := Lib.hid hF1
  clear hF1
  go_wp2_with fail
  refine HK.out.mono ?_
  rintro e w1' ⟨rfl, rfl⟩
  go_wp2_with fail
  refine (known_c w1).mono ?_
  rintro e w9 ⟨rfl, hF9⟩
  have HF9 := Lib.hid hF9
  clear hF9
  go_wp2_with fail
  go_ret
  exact ⟨rfl, HF0.out.trans (HF1.out.trans HF9.out (fun _ _ h => h)) (fun _ _ h => h)⟩

set_option maxRecDepth 100000 in
theorem hole_refs (w : World) (a : Option Addr) (cap : Nat) (l : List Row) (ga : Option Addr) (gc : Nat) (g : List Id) (now : Int) (r : Row) (hl : l.length ≤ 9223372036854775807) (h : AtL w a 83 rowC l) (hr : RefsAt w l) (h2 : AtL w ga 32 idC g) (hrr : AtL w r.ra 32 idC r.refs) (hf : Few l g) (h0 : r.refs.length ≠ 0) :
    Calls Try.prog 5 #[.slice a l.length cap, .slice ga g.length gc, .int .i64 now, .agg (rowC r).toArray] w fun e w' => e = .returned (.bool true) ∧ Fr Non w w' := by
  have HL := Lib.hid hl
  have hb0 := heap_alloc_new w (.cells (rowC r).toArray 36)
  have hF0 : Fr Non w (w.alloc (.cells (rowC r).toArray 36)) := (Fr.refl _ w).alloc _
  obtain ⟨w0, hw0⟩ : ∃ w0, w.alloc (.cells (rowC r).toArray 36) = w0 := ⟨_, rfl⟩
  rw [hw0] at hb0 hF0
  obtain ⟨b0, hbb0⟩ : ∃ b, w.heap.size = b := ⟨_, rfl⟩
  rw [hbb0] at hb0
  have H := Lib.hid (h.non hF0)
  have HR := Lib.hid (hr.non hF0)
  have H2 := Lib.hid (h2.non hF0)
  have HRR := Lib.hid (hrr.non hF0)
  have HB0 := Lib.hid hb0
  have HF0 := Lib.hid hF0
  clear h hl hr h2 hrr hb0 hF0
  have HF := Lib.hid hf
  have h01 : ¬ (r.refs.length : Int) = 0 := by omega
  clear hf
  go_enter Try.func5, Try.ntmps5
  go_wp2_with (first
    | (guard_target =~ wpList _ _ _ (⟨_, Op.box 36 _, _, _, _, _⟩ :: _) _ _; refine wl rfl (r_boxA (cs := (rowC r).toArray) rfl rfl) ?_; rw [hw0, hbb0]; simp only [Act.put, List.setIfInBounds_toArray, List.set_cons_zero, List.set_cons_succ])
    | fail)
  refine (known_c w0).mono ?_
  rintro e w1 ⟨rfl, hF1⟩
  have HK := Lib.hid (few_t w1 a cap l ga gc g HL.out (H.out.non hF1) HF.out)
  have hc1 : w1.cell? ⟨b0, 50, none⟩ = some (.slice r.ra r.refs.length r.rc) := cellOf (hF1.keep HB0.out (fun h => h)) 50 (by simpa using rowC_refs r)
  have HB1 := Lib.hid (hF1.keep HB0.out (fun h => h))
  have HF1 := Lib.hid hF1
  clear hF1
  go_wp2_with fail
  refine HK.out.mono ?_
  rintro e w1' ⟨rfl, rfl⟩
  go_wp2_with fail
  refine (known_c w1).mono ?_
  rintro e w9 ⟨rfl, hF9⟩
  have HF9 := Lib.hid hF9
  clear hF9
  go_wp2_with fail
  go_ret
  exact ⟨rfl, HF0.out.trans (HF1.out.trans HF9.out (fun _ _ h => h)) (fun _ _ h => h)⟩

set_option maxRecDepth 100000 in
set_option maxHeartbeats 1000000 in
theorem hole_bad (w : World) (a : Option Addr) (cap : Nat) (l : List Row) (ga : Option Addr) (gc : Nat) (g : List Id) (now : Int) (r : Row) (hl : l.length ≤ 9223372036854775807) (h : AtL w a 83 rowC l) (hr : RefsAt w l) (h2 : AtL w ga 32 idC g) (hrr : AtL w r.ra 32 idC r.refs) (hf : Few l g) (h0 : r.refs.length = 0) (hg : ¬ Good (l ++ [r])) :
    Calls Try.prog 5 #[.slice a l.length cap, .slice ga g.length gc, .int .i64 now, .agg (rowC r).toArray] w fun e w' => e = .returned (.bool true) ∧ Fr Non w w' := by
  have HL := Lib.hid hl
  have hb0 := heap_alloc_new w (.cells (rowC r).toArray 36)
  have hF0 : Fr Non w (w.alloc (.cells (rowC r).toArray 36)) := (Fr.refl _ w).alloc _
  obtain ⟨w0, hw0⟩ : ∃ w0, w.alloc (.cells (rowC r).toArray 36) = w0 := ⟨_, rfl⟩
  rw [hw0] at hb0 hF0
  obtain ⟨b0, hbb0⟩ : ∃ b, w.heap.size = b := ⟨_, rfl⟩
  rw [hbb0] at hb0
  have H := Lib.hid (h.non hF0)
  have HR := Lib.hid (hr.non hF0)
  have H2 := Lib.hid (h2.non hF0)
  have HRR := Lib.hid (hrr.non hF0)
  have HB0 := Lib.hid hb0
  have HF0 := Lib.hid hF0
  clear h hl hr h2 hrr hb0 hF0
  have HF := Lib.hid hf
  have HG := Lib.hid hg
  have h01 : (r.refs.length : Int) = 0 := by omega
  clear hf hg
  go_enter Try.func5, Try.ntmps5
  go_wp2_with (first
    | (guard_target =~ wpList _ _ _ (⟨_, Op.box 36 _, _, _, _, _⟩ :: _) _ _; refine wl rfl (r_boxA (cs := (rowC r).toArray) rfl rfl) ?_; rw [hw0, hbb0]; simp only [Act.put, List.setIfInBounds_toArray, List.set_cons_zero, List.set_cons_succ])
    | fail)
  refine (known_c w0).mono ?_
  rintro e w1 ⟨rfl, hF1⟩
  have HK := Lib.hid (few_t w1 a cap l ga gc g HL.out (H.out.non hF1) HF.out)
  have hc1 : w1.cell? ⟨b0, 50, none⟩ = some (.slice r.ra r.refs.length r.rc) := cellOf (hF1.keep HB0.out (fun h => h)) 50 (by simpa using rowC_refs r)
  have HB1 := Lib.hid (hF1.keep HB0.out (fun h => h))
  have HF1 := Lib.hid hF1
  clear hF1
  go_wp2_with fail
  refine HK.out.mono ?_
  rintro e w1' ⟨rfl, rfl⟩
  go_wp2_with fail
  generalize hA : (Act.mk _ _) = A
  obtain ⟨A2, hA2⟩ : ∃ A2, A2 = A := ⟨_, rfl⟩
  refine Code.wp_mono (Q := fun x a' w' => x = .normal ∧ ∃ v33 v35 v37 b6 c6, a' = (((((((A2.put (some 33) v33).put (some 34) (.slice a l.length cap)).put (some 35) v35).put (some 36) (.agg (rowC r).toArray)).put (some 37) v37).put (some 38) (.slice (some ⟨b6, 0, none⟩) (l.length + 1) c6)).put (some 9) (.slice (some ⟨b6, 0, none⟩) (l.length + 1) c6)) ∧ AtL w' (some ⟨b6, 0, none⟩) 83 rowC (l ++ [r]) ∧ l.length + 1 ≤ c6 ∧ Fr Non w1.drew w') ?_ ?_
  rotate_left
  · subst hA
    have hf1d : Fr Non w0 w1.drew := HF1.out.drew
    refine rc (fun W : World => Fr Non w1.drew W) 5 (by kernel_rfl) ?_
    have hS : (fun W : World => Fr Non w1.drew W) w1.drew := Fr.refl _ _
    refine tp (i := 1) (v := .slice a l.length cap) rfl (by kernel_rfl) (fun _ _ _ h => nomatch h.1) rfl (fun W0 => r_move rfl rfl) (.inr hS) ?_
    simp only [Act.put, List.setIfInBounds_toArray, List.set_cons_zero, List.set_cons_succ]
    refine tc (i := 3) (v := .agg (rowC r).toArray) rfl 8 (by kernel_rfl) (fun _ _ _ h => nomatch h.1) rfl (fun W0 hw => r_load (b := b0) (i := 0) rfl rfl (rng_fr hw (rangeAt_of (w := w1.drew) HB1.out 0 (rowC r) (by simp))) Try.underlying36 rfl (by rw [sz36, rowC_length])) hS ?_
    simp only [Act.put, List.setIfInBounds_toArray, List.set_cons_zero, List.set_cons_succ]
    refine two (i := 0) (j := 4) rfl rfl (by kernel_rfl) rfl rfl (wp_of_runV (r_buildSlice (vs := []) rfl rfl (buildSlice22_0 w1.drew)) ⟨fun _ => (Fr.refl Non w1.drew).alloc _, ?_⟩) (wp_of_runV (r_buildSlice (vs := [(0, .agg (rowC r).toArray)]) rfl rfl (buildSlice22 w1.drew r)) ⟨fun _ => (Fr.refl Non w1.drew).alloc _, ?_⟩)
    · simp only [Act.put, List.setIfInBounds_toArray, List.set_cons_zero, List.set_cons_succ]
      have hFa : Fr Non w1.drew (w1.drew.alloc (.cells #[] 36)) := (Fr.refl Non w1.drew).alloc _
      refine two (i := 2) (j := 4) rfl rfl (by kernel_rfl) rfl rfl ?_ ?_
      · obtain ⟨bq5, cq5, wq5, rq5, oq5, hgb, hF5, hG5⟩ := app_many elem36 Try.underlying22 (by omega) (l.length) a cap hFa (own_empty 36 83 rowC w1.drew) (Nat.le_refl _) ((H.out.non hf1d).non hFa) rfl (by simp) (by have := HF.out.2.1; omega)
        refine wp_of_runV (r_builtin (vs := [.slice (some ⟨w1.drew.heap.size, 0, none⟩) 0 0, .slice a l.length cap]) rfl rfl (builtin_append rq5)) ⟨fun _ => hF5, ?_⟩
        simp only [Act.put, List.setIfInBounds_toArray, List.set_cons_zero, List.set_cons_succ]
        have hF5x : Fr Non w1.drew (wq5.alloc (.cells (rowC r).toArray 36)) := hF5.alloc _
        refine oc3 (i := 4) rfl (by kernel_rfl) rfl hF5x (r_buildSlice (vs := [(0, .agg (rowC r).toArray)]) rfl rfl (buildSlice22 wq5 r)) ?_
        simp only [Act.put, List.setIfInBounds_toArray, List.set_cons_zero, List.set_cons_succ]
        obtain ⟨b6, c6, w6, r6, o6, hb6, hF6⟩ := app_one elem36 Try.underlying22 (by omega) r (l.length + 1) wq5.heap.size hF5x (oq5.fr ((Fr.refl Non wq5).alloc _) (fun _ _ h => h)) hgb (heap_alloc_new wq5 _) (by simp) rfl (by have := HF.out.2.1; omega)
        refine oc2 (i := 5) rfl (by kernel_rfl) rfl (by kernel_rfl) (r_builtin (vs := [.slice (some ⟨bq5, 0, none⟩) l.length cq5, .slice (some ⟨wq5.heap.size, 0, none⟩) 1 1]) rfl rfl (builtin_append r6)) ?_
        simp only [Act.put, List.setIfInBounds_toArray, List.set_cons_zero, List.set_cons_succ]
        refine tp (i := 6) (v := .slice (some ⟨b6, 0, none⟩) (l.length + 1) c6) rfl (by kernel_rfl) (fun _ _ _ h => nomatch h.1) rfl (fun W0 => r_assign rfl rfl) (.inl (by kernel_rfl)) ?_
        simp only [Act.put, List.setIfInBounds_toArray, List.set_cons_zero, List.set_cons_succ]
        refine dc (by kernel_rfl) ?_
        refine ⟨rfl, .slice (some ⟨w1.drew.heap.size, 0, none⟩) 0 0, .slice (some ⟨bq5, 0, none⟩) l.length cq5, .slice (some ⟨wq5.heap.size, 0, none⟩) 1 1, b6, c6, ?_, AtL.own elem36 o6, own_cap o6, hF6⟩
        rw [hA2]
        simp only [Act.put, List.setIfInBounds_toArray, List.set_cons_zero, List.set_cons_succ]
      · refine wp_of_runV (r_buildSlice (vs := [(0, .agg (rowC r).toArray)]) rfl rfl (buildSlice22 (w1.drew.alloc (.cells #[] 36)) r)) ⟨fun _ => hFa.alloc _, ?_⟩
        simp only [Act.put, List.setIfInBounds_toArray, List.set_cons_zero, List.set_cons_succ]
        have hFb : Fr Non (w1.drew.alloc (.cells #[] 36)) ((w1.drew.alloc (.cells #[] 36)).alloc (.cells (rowC r).toArray 36)) := (Fr.refl Non _).alloc _
        have hFab := hFa.trans hFb (fun _ _ h => h)
        have hxb := heap_alloc_new (w1.drew.alloc (.cells #[] 36)) (.cells (rowC r).toArray 36)
        obtain ⟨bq5, cq5, wq5, rq5, oq5, hgb, hF5, hG5⟩ := app_many elem36 Try.underlying22 (by omega) (l.length) a cap hFab ((own_empty 36 83 rowC w1.drew).fr hFb (fun _ _ h => h)) (Nat.le_refl _) ((H.out.non hf1d).non hFab) rfl (by simp) (by have := HF.out.2.1; omega)
        refine oc3 (i := 2) rfl (by kernel_rfl) rfl hF5 (r_builtin (vs := [.slice (some ⟨w1.drew.heap.size, 0, none⟩) 0 0, .slice a l.length cap]) rfl rfl (builtin_append rq5)) ?_
        simp only [Act.put, List.setIfInBounds_toArray, List.set_cons_zero, List.set_cons_succ]
        have hx5 := hG5.keep hxb (fun e => by have e' : (w1.drew.alloc (.cells #[] 36)).heap.size = w1.drew.heap.size := e; rw [World.size_alloc] at e'; omega)
        obtain ⟨b6, c6, w6, r6, o6, hb6, hF6⟩ := app_one elem36 Try.underlying22 (by omega) r (l.length + 1) (w1.drew.alloc (.cells #[] 36)).heap.size hF5 oq5 hgb hx5 (by simp) rfl (by have := HF.out.2.1; omega)
        refine oc2 (i := 5) rfl (by kernel_rfl) rfl (by kernel_rfl) (r_builtin (vs := [.slice (some ⟨bq5, 0, none⟩) l.length cq5, .slice (some ⟨(w1.drew.alloc (.cells #[] 36)).heap.size, 0, none⟩) 1 1]) rfl rfl (builtin_append r6)) ?_
        simp only [Act.put, List.setIfInBounds_toArray, List.set_cons_zero, List.set_cons_succ]
        refine tp (i := 6) (v := .slice (some ⟨b6, 0, none⟩) (l.length + 1) c6) rfl (by kernel_rfl) (fun _ _ _ h => nomatch h.1) rfl (fun W0 => r_assign rfl rfl) (.inl (by kernel_rfl)) ?_
        simp only [Act.put, List.setIfInBounds_toArray, List.set_cons_zero, List.set_cons_succ]
        refine dc (by kernel_rfl) ?_
        refine ⟨rfl, .slice (some ⟨w1.drew.heap.size, 0, none⟩) 0 0, .slice (some ⟨bq5, 0, none⟩) l.length cq5, .slice (some ⟨(w1.drew.alloc (.cells #[] 36)).heap.size, 0, none⟩) 1 1, b6, c6, ?_, AtL.own elem36 o6, own_cap o6, hF6⟩
        rw [hA2]
        simp only [Act.put, List.setIfInBounds_toArray, List.set_cons_zero, List.set_cons_succ]
    · simp only [Act.put, List.setIfInBounds_toArray, List.set_cons_zero, List.set_cons_succ]
      have hFb : Fr Non w1.drew (w1.drew.alloc (.cells (rowC r).toArray 36)) := (Fr.refl Non w1.drew).alloc _
      have hxb := heap_alloc_new w1.drew (.cells (rowC r).toArray 36)
      obtain ⟨wb, hwb⟩ : ∃ wb, w1.drew.alloc (.cells (rowC r).toArray 36) = wb := ⟨_, rfl⟩
      have hsb : wb.heap.size = w1.drew.heap.size + 1 := hwb ▸ World.size_alloc w1.drew _
      rw [hwb] at hFb hxb ⊢
      have hFc : Fr Non w1.drew (wb.alloc (.cells #[] 36)) := hFb.alloc _
      refine oc3 (i := 0) rfl (by kernel_rfl) rfl hFc (r_buildSlice (vs := []) rfl rfl (buildSlice22_0 wb)) ?_
      simp only [Act.put, List.setIfInBounds_toArray, List.set_cons_zero, List.set_cons_succ]
      obtain ⟨bq5, cq5, wq5, rq5, oq5, hgb, hF5, hG5⟩ := app_many elem36 Try.underlying22 (by omega) (l.length) a cap hFc (own_empty 36 83 rowC wb) (by omega) ((H.out.non hf1d).non hFc) rfl (by simp) (by have := HF.out.2.1; omega)
      refine oc3 (i := 2) rfl (by kernel_rfl) rfl hF5 (r_builtin (vs := [.slice (some ⟨wb.heap.size, 0, none⟩) 0 0, .slice a l.length cap]) rfl rfl (builtin_append rq5)) ?_
      simp only [Act.put, List.setIfInBounds_toArray, List.set_cons_zero, List.set_cons_succ]
      have hx5 := hG5.keep (((Fr.refl Non wb).alloc (.cells #[] 36)).keep hxb (fun h => h)) (fun e => by have e' : w1.drew.heap.size = wb.heap.size := e; omega)
      obtain ⟨b6, c6, w6, r6, o6, hb6, hF6⟩ := app_one elem36 Try.underlying22 (by omega) r (l.length + 1) w1.drew.heap.size hF5 oq5 hgb hx5 (by simp) rfl (by have := HF.out.2.1; omega)
      refine oc2 (i := 5) rfl (by kernel_rfl) rfl (by kernel_rfl) (r_builtin (vs := [.slice (some ⟨bq5, 0, none⟩) l.length cq5, .slice (some ⟨w1.drew.heap.size, 0, none⟩) 1 1]) rfl rfl (builtin_append r6)) ?_
      simp only [Act.put, List.setIfInBounds_toArray, List.set_cons_zero, List.set_cons_succ]
      refine tp (i := 6) (v := .slice (some ⟨b6, 0, none⟩) (l.length + 1) c6) rfl (by kernel_rfl) (fun _ _ _ h => nomatch h.1) rfl (fun W0 => r_assign rfl rfl) (.inl (by kernel_rfl)) ?_
      simp only [Act.put, List.setIfInBounds_toArray, List.set_cons_zero, List.set_cons_succ]
      refine dc (by kernel_rfl) ?_
      refine ⟨rfl, .slice (some ⟨wb.heap.size, 0, none⟩) 0 0, .slice (some ⟨bq5, 0, none⟩) l.length cq5, .slice (some ⟨w1.drew.heap.size, 0, none⟩) 1 1, b6, c6, ?_, AtL.own elem36 o6, own_cap o6, hF6⟩
      rw [hA2]
      simp only [Act.put, List.setIfInBounds_toArray, List.set_cons_zero, List.set_cons_succ]
  rintro x a' w2 ⟨rfl, v33, v35, v37, b9, c9, rfl, hA9, hcap9, hF2⟩
  subst hA
  subst hA2
  simp only [Act.put, List.setIfInBounds_toArray, List.set_cons_zero, List.set_cons_succ]
  have hF02 : Fr Non w0 w2 := HF1.out.trans (((Fr.refl Non w1).drew).trans hF2 (fun _ _ h => h)) (fun _ _ h => h)
  have HB2 := Lib.hid (hF02.keep HB0.out (fun h => h))
  have HA9 := Lib.hid hA9
  have HF02 := Lib.hid hF02
  clear hA9 hF2 hF02 hc1 HB1
  have HK2 := Lib.hid (check2_f w2 _ c9 l r HF.out.2.1 hcap9 HA9.out HG.out)
  clear hcap9
  go_wp2_with fail
  refine HK2.out.mono ?_
  rintro e w3 ⟨c, rfl, hc0, hF3⟩
  have hc1 : c ≠ 0 := by simpa using hc0
  have HF3 := Lib.hid hF3
  clear hF3
  go_wp2_with fail
  go_ret
  exact ⟨rfl, HF0.out.trans (HF02.out.trans HF3.out (fun _ _ h => h)) (fun _ _ h => h)⟩

set_option maxRecDepth 100000 in
set_option maxHeartbeats 2000000 in
theorem hole_good (w : World) (a : Option Addr) (cap : Nat) (l : List Row) (ga : Option Addr) (gc : Nat) (g : List Id) (now : Int) (r : Row) (hl : l.length ≤ 9223372036854775807) (h : AtL w a 83 rowC l) (hr : RefsAt w l) (h2 : AtL w ga 32 idC g) (hrr : AtL w r.ra 32 idC r.refs) (hf : Few l g) (h0 : r.refs.length = 0) (hg : Good (l ++ [r])) :
    Calls Try.prog 5 #[.slice a l.length cap, .slice ga g.length gc, .int .i64 now, .agg (rowC r).toArray] w fun e w' => e = .returned (.bool true) ∧ Fr Non w w' := by
  have HL := Lib.hid hl
  have hb0 := heap_alloc_new w (.cells (rowC r).toArray 36)
  have hF0 : Fr Non w (w.alloc (.cells (rowC r).toArray 36)) := (Fr.refl _ w).alloc _
  obtain ⟨w0, hw0⟩ : ∃ w0, w.alloc (.cells (rowC r).toArray 36) = w0 := ⟨_, rfl⟩
  rw [hw0] at hb0 hF0
  obtain ⟨b0, hbb0⟩ : ∃ b, w.heap.size = b := ⟨_, rfl⟩
  rw [hbb0] at hb0
  have H := Lib.hid (h.non hF0)
  have HR := Lib.hid (hr.non hF0)
  have H2 := Lib.hid (h2.non hF0)
  have HRR := Lib.hid (hrr.non hF0)
  have HB0 := Lib.hid hb0
  have HF0 := Lib.hid hF0
  clear h hl hr h2 hrr hb0 hF0
  have HF := Lib.hid hf
  have HG := Lib.hid hg
  have h01 : (r.refs.length : Int) = 0 := by omega
  have HR0 := Lib.hid (show r.refs = [] from List.eq_nil_of_length_eq_zero h0)
  clear hf hg
  go_enter Try.func5, Try.ntmps5
  go_wp2_with (first
    | (guard_target =~ wpList _ _ _ (⟨_, Op.box 36 _, _, _, _, _⟩ :: _) _ _; refine wl rfl (r_boxA (cs := (rowC r).toArray) rfl rfl) ?_; rw [hw0, hbb0]; simp only [Act.put, List.setIfInBounds_toArray, List.set_cons_zero, List.set_cons_succ])
    | fail)
  refine (known_c w0).mono ?_
  rintro e w1 ⟨rfl, hF1⟩
  have HK := Lib.hid (few_t w1 a cap l ga gc g HL.out (H.out.non hF1) HF.out)
  have hc1 : w1.cell? ⟨b0, 50, none⟩ = some (.slice r.ra r.refs.length r.rc) := cellOf (hF1.keep HB0.out (fun h => h)) 50 (by simpa using rowC_refs r)
  have HB1 := Lib.hid (hF1.keep HB0.out (fun h => h))
  have HF1 := Lib.hid hF1
  clear hF1
  go_wp2_with fail
  refine HK.out.mono ?_
  rintro e w1' ⟨rfl, rfl⟩
  go_wp2_with fail
  generalize hA : (Act.mk _ _) = A
  obtain ⟨A2, hA2⟩ : ∃ A2, A2 = A := ⟨_, rfl⟩
  refine Code.wp_mono (Q := fun x a' w' => x = .normal ∧ ∃ v33 v35 v37 b6 c6, a' = (((((((A2.put (some 33) v33).put (some 34) (.slice a l.length cap)).put (some 35) v35).put (some 36) (.agg (rowC r).toArray)).put (some 37) v37).put (some 38) (.slice (some ⟨b6, 0, none⟩) (l.length + 1) c6)).put (some 9) (.slice (some ⟨b6, 0, none⟩) (l.length + 1) c6)) ∧ AtL w' (some ⟨b6, 0, none⟩) 83 rowC (l ++ [r]) ∧ l.length + 1 ≤ c6 ∧ Fr Non w1.drew w') ?_ ?_
  rotate_left
  · subst hA
    have hf1d : Fr Non w0 w1.drew := HF1.out.drew
    refine rc (fun W : World => Fr Non w1.drew W) 5 (by kernel_rfl) ?_
    have hS : (fun W : World => Fr Non w1.drew W) w1.drew := Fr.refl _ _
    refine tp (i := 1) (v := .slice a l.length cap) rfl (by kernel_rfl) (fun _ _ _ h => nomatch h.1) rfl (fun W0 => r_move rfl rfl) (.inr hS) ?_
    simp only [Act.put, List.setIfInBounds_toArray, List.set_cons_zero, List.set_cons_succ]
    refine tc (i := 3) (v := .agg (rowC r).toArray) rfl 8 (by kernel_rfl) (fun _ _ _ h => nomatch h.1) rfl (fun W0 hw => r_load (b := b0) (i := 0) rfl rfl (rng_fr hw (rangeAt_of (w := w1.drew) HB1.out 0 (rowC r) (by simp))) Try.underlying36 rfl (by rw [sz36, rowC_length])) hS ?_
    simp only [Act.put, List.setIfInBounds_toArray, List.set_cons_zero, List.set_cons_succ]
    refine two (i := 0) (j := 4) rfl rfl (by kernel_rfl) rfl rfl (wp_of_runV (r_buildSlice (vs := []) rfl rfl (buildSlice22_0 w1.drew)) ⟨fun _ => (Fr.refl Non w1.drew).alloc _, ?_⟩) (wp_of_runV (r_buildSlice (vs := [(0, .agg (rowC r).toArray)]) rfl rfl (buildSlice22 w1.drew r)) ⟨fun _ => (Fr.refl Non w1.drew).alloc _, ?_⟩)
    · simp only [Act.put, List.setIfInBounds_toArray, List.set_cons_zero, List.set_cons_succ]
      have hFa : Fr Non w1.drew (w1.drew.alloc (.cells #[] 36)) := (Fr.refl Non w1.drew).alloc _
      refine two (i := 2) (j := 4) rfl rfl (by kernel_rfl) rfl rfl ?_ ?_
      · obtain ⟨bq5, cq5, wq5, rq5, oq5, hgb, hF5, hG5⟩ := app_many elem36 Try.underlying22 (by omega) (l.length) a cap hFa (own_empty 36 83 rowC w1.drew) (Nat.le_refl _) ((H.out.non hf1d).non hFa) rfl (by simp) (by have := HF.out.2.1; omega)
        refine wp_of_runV (r_builtin (vs := [.slice (some ⟨w1.drew.heap.size, 0, none⟩) 0 0, .slice a l.length cap]) rfl rfl (builtin_append rq5)) ⟨fun _ => hF5, ?_⟩
        simp only [Act.put, List.setIfInBounds_toArray, List.set_cons_zero, List.set_cons_succ]
        have hF5x : Fr Non w1.drew (wq5.alloc (.cells (rowC r).toArray 36)) := hF5.alloc _
        refine oc3 (i := 4) rfl (by kernel_rfl) rfl hF5x (r_buildSlice (vs := [(0, .agg (rowC r).toArray)]) rfl rfl (buildSlice22 wq5 r)) ?_
        simp only [Act.put, List.setIfInBounds_toArray, List.set_cons_zero, List.set_cons_succ]
        obtain ⟨b6, c6, w6, r6, o6, hb6, hF6⟩ := app_one elem36 Try.underlying22 (by omega) r (l.length + 1) wq5.heap.size hF5x (oq5.fr ((Fr.refl Non wq5).alloc _) (fun _ _ h => h)) hgb (heap_alloc_new wq5 _) (by simp) rfl (by have := HF.out.2.1; omega)
        refine oc2 (i := 5) rfl (by kernel_rfl) rfl (by kernel_rfl) (r_builtin (vs := [.slice (some ⟨bq5, 0, none⟩) l.length cq5, .slice (some ⟨wq5.heap.size, 0, none⟩) 1 1]) rfl rfl (builtin_append r6)) ?_
        simp only [Act.put, List.setIfInBounds_toArray, List.set_cons_zero, List.set_cons_succ]
        refine tp (i := 6) (v := .slice (some ⟨b6, 0, none⟩) (l.length + 1) c6) rfl (by kernel_rfl) (fun _ _ _ h => nomatch h.1) rfl (fun W0 => r_assign rfl rfl) (.inl (by kernel_rfl)) ?_
        simp only [Act.put, List.setIfInBounds_toArray, List.set_cons_zero, List.set_cons_succ]
        refine dc (by kernel_rfl) ?_
        refine ⟨rfl, .slice (some ⟨w1.drew.heap.size, 0, none⟩) 0 0, .slice (some ⟨bq5, 0, none⟩) l.length cq5, .slice (some ⟨wq5.heap.size, 0, none⟩) 1 1, b6, c6, ?_, AtL.own elem36 o6, own_cap o6, hF6⟩
        rw [hA2]
        simp only [Act.put, List.setIfInBounds_toArray, List.set_cons_zero, List.set_cons_succ]
      · refine wp_of_runV (r_buildSlice (vs := [(0, .agg (rowC r).toArray)]) rfl rfl (buildSlice22 (w1.drew.alloc (.cells #[] 36)) r)) ⟨fun _ => hFa.alloc _, ?_⟩
        simp only [Act.put, List.setIfInBounds_toArray, List.set_cons_zero, List.set_cons_succ]
        have hFb : Fr Non (w1.drew.alloc (.cells #[] 36)) ((w1.drew.alloc (.cells #[] 36)).alloc (.cells (rowC r).toArray 36)) := (Fr.refl Non _).alloc _
        have hFab := hFa.trans hFb (fun _ _ h => h)
        have hxb := heap_alloc_new (w1.drew.alloc (.cells #[] 36)) (.cells (rowC r).toArray 36)
        obtain ⟨bq5, cq5, wq5, rq5, oq5, hgb, hF5, hG5⟩ := app_many elem36 Try.underlying22 (by omega) (l.length) a cap hFab ((own_empty 36 83 rowC w1.drew).fr hFb (fun _ _ h => h)) (Nat.le_refl _) ((H.out.non hf1d).non hFab) rfl (by simp) (by have := HF.out.2.1; omega)
        refine oc3 (i := 2) rfl (by kernel_rfl) rfl hF5 (r_builtin (vs := [.slice (some ⟨w1.drew.heap.size, 0, none⟩) 0 0, .slice a l.length cap]) rfl rfl (builtin_append rq5)) ?_
        simp only [Act.put, List.setIfInBounds_toArray, List.set_cons_zero, List.set_cons_succ]
        have hx5 := hG5.keep hxb (fun e => by have e' : (w1.drew.alloc (.cells #[] 36)).heap.size = w1.drew.heap.size := e; rw [World.size_alloc] at e'; omega)
        obtain ⟨b6, c6, w6, r6, o6, hb6, hF6⟩ := app_one elem36 Try.underlying22 (by omega) r (l.length + 1) (w1.drew.alloc (.cells #[] 36)).heap.size hF5 oq5 hgb hx5 (by simp) rfl (by have := HF.out.2.1; omega)
        refine oc2 (i := 5) rfl (by kernel_rfl) rfl (by kernel_rfl) (r_builtin (vs := [.slice (some ⟨bq5, 0, none⟩) l.length cq5, .slice (some ⟨(w1.drew.alloc (.cells #[] 36)).heap.size, 0, none⟩) 1 1]) rfl rfl (builtin_append r6)) ?_
        simp only [Act.put, List.setIfInBounds_toArray, List.set_cons_zero, List.set_cons_succ]
        refine tp (i := 6) (v := .slice (some ⟨b6, 0, none⟩) (l.length + 1) c6) rfl (by kernel_rfl) (fun _ _ _ h => nomatch h.1) rfl (fun W0 => r_assign rfl rfl) (.inl (by kernel_rfl)) ?_
        simp only [Act.put, List.setIfInBounds_toArray, List.set_cons_zero, List.set_cons_succ]
        refine dc (by kernel_rfl) ?_
        refine ⟨rfl, .slice (some ⟨w1.drew.heap.size, 0, none⟩) 0 0, .slice (some ⟨bq5, 0, none⟩) l.length cq5, .slice (some ⟨(w1.drew.alloc (.cells #[] 36)).heap.size, 0, none⟩) 1 1, b6, c6, ?_, AtL.own elem36 o6, own_cap o6, hF6⟩
        rw [hA2]
        simp only [Act.put, List.setIfInBounds_toArray, List.set_cons_zero, List.set_cons_succ]
    · simp only [Act.put, List.setIfInBounds_toArray, List.set_cons_zero, List.set_cons_succ]
      have hFb : Fr Non w1.drew (w1.drew.alloc (.cells (rowC r).toArray 36)) := (Fr.refl Non w1.drew).alloc _
      have hxb := heap_alloc_new w1.drew (.cells (rowC r).toArray 36)
      obtain ⟨wb, hwb⟩ : ∃ wb, w1.drew.alloc (.cells (rowC r).toArray 36) = wb := ⟨_, rfl⟩
      have hsb : wb.heap.size = w1.drew.heap.size + 1 := hwb ▸ World.size_alloc w1.drew _
      rw [hwb] at hFb hxb ⊢
      have hFc : Fr Non w1.drew (wb.alloc (.cells #[] 36)) := hFb.alloc _
      refine oc3 (i := 0) rfl (by kernel_rfl) rfl hFc (r_buildSlice (vs := []) rfl rfl (buildSlice22_0 wb)) ?_
      simp only [Act.put, List.setIfInBounds_toArray, List.set_cons_zero, List.set_cons_succ]
      obtain ⟨bq5, cq5, wq5, rq5, oq5, hgb, hF5, hG5⟩ := app_many elem36 Try.underlying22 (by omega) (l.length) a cap hFc (own_empty 36 83 rowC wb) (by omega) ((H.out.non hf1d).non hFc) rfl (by simp) (by have := HF.out.2.1; omega)
      refine oc3 (i := 2) rfl (by kernel_rfl) rfl hF5 (r_builtin (vs := [.slice (some ⟨wb.heap.size, 0, none⟩) 0 0, .slice a l.length cap]) rfl rfl (builtin_append rq5)) ?_
      simp only [Act.put, List.setIfInBounds_toArray, List.set_cons_zero, List.set_cons_succ]
      have hx5 := hG5.keep (((Fr.refl Non wb).alloc (.cells #[] 36)).keep hxb (fun h => h)) (fun e => by have e' : w1.drew.heap.size = wb.heap.size := e; omega)
      obtain ⟨b6, c6, w6, r6, o6, hb6, hF6⟩ := app_one elem36 Try.underlying22 (by omega) r (l.length + 1) w1.drew.heap.size hF5 oq5 hgb hx5 (by simp) rfl (by have := HF.out.2.1; omega)
      refine oc2 (i := 5) rfl (by kernel_rfl) rfl (by kernel_rfl) (r_builtin (vs := [.slice (some ⟨bq5, 0, none⟩) l.length cq5, .slice (some ⟨w1.drew.heap.size, 0, none⟩) 1 1]) rfl rfl (builtin_append r6)) ?_
      simp only [Act.put, List.setIfInBounds_toArray, List.set_cons_zero, List.set_cons_succ]
      refine tp (i := 6) (v := .slice (some ⟨b6, 0, none⟩) (l.length + 1) c6) rfl (by kernel_rfl) (fun _ _ _ h => nomatch h.1) rfl (fun W0 => r_assign rfl rfl) (.inl (by kernel_rfl)) ?_
      simp only [Act.put, List.setIfInBounds_toArray, List.set_cons_zero, List.set_cons_succ]
      refine dc (by kernel_rfl) ?_
      refine ⟨rfl, .slice (some ⟨wb.heap.size, 0, none⟩) 0 0, .slice (some ⟨bq5, 0, none⟩) l.length cq5, .slice (some ⟨w1.drew.heap.size, 0, none⟩) 1 1, b6, c6, ?_, AtL.own elem36 o6, own_cap o6, hF6⟩
      rw [hA2]
      simp only [Act.put, List.setIfInBounds_toArray, List.set_cons_zero, List.set_cons_succ]
  rintro x a' w2 ⟨rfl, v33, v35, v37, b9, c9, rfl, hA9, hcap9, hF2⟩
  subst hA
  subst hA2
  simp only [Act.put, List.setIfInBounds_toArray, List.set_cons_zero, List.set_cons_succ]
  have hF02 : Fr Non w0 w2 := HF1.out.trans (((Fr.refl Non w1).drew).trans hF2 (fun _ _ h => h)) (fun _ _ h => h)
  have HB2 := Lib.hid (hF02.keep HB0.out (fun h => h))
  have HA9 := Lib.hid hA9
  have HF02 := Lib.hid hF02
  clear hA9 hF2 hF02 hc1 HB1
  have HK2 := Lib.hid (check2_t w2 _ c9 l r HF.out.2.1 hcap9 HA9.out HG.out)
  clear hcap9
  go_wp2_with fail
  refine HK2.out.mono ?_
  rintro e w3 ⟨rfl, hF3⟩
  have hF03 := HF02.out.trans hF3 (fun _ _ h => h)
  have hg30 : g.length ≤ 1000000 := by have := HF.out.2.2; omega
  have HGL := Lib.hid (good_of_snoc HG.out)
  obtain ⟨s1, hs1⟩ : ∃ s, s = shown l g now := ⟨_, rfl⟩
  obtain ⟨s2, hs2⟩ : ∃ s, s = shown (l ++ [r]) g now := ⟨_, rfl⟩
  obtain ⟨s3, hs3⟩ : ∃ s, s = shown l (g ++ [r.id]) now := ⟨_, rfl⟩
  have hlen : s2.length = s3.length + 1 := by rw [hs2, hs3]; exact hole_length HG.out HR0.out g now
  have HLEN := Lib.hid hlen
  have HLAW0 := Lib.hid (show r.id ∈ s2 from hs2 ▸ hole_new HG.out HR0.out g now)
  have HLAW1 := Lib.hid (fun (x : Id) (hx : x ∈ s1) => (show x ∈ s2 from hs2 ▸ hole_first HG.out HR0.out (hs1 ▸ hx)))
  have HLAW3 := Lib.hid (fun (x : Id) (hx : x ∈ s3) => (show x ∈ s2 from hs2 ▸ hole_old HG.out HR0.out (hs3 ▸ hx)))
  have hl1 : s1.length ≤ 31 := by have := shown_le l g now; rw [← hs1] at this; have := HF.out.2.1; omega
  have hl3 : s3.length ≤ 31 := by have := shown_le l (g ++ [r.id]) now; rw [← hs3] at this; have := HF.out.2.1; omega
  have hl3i : (s3.length : Int) ≤ 31 := by omega
  have HSL2 := Lib.hid (show s2.length ≤ 1000000 from by omega)
  have HK3 := Lib.hid (Shown_l w3 a cap l ga gc g now HGL.out hg30 (H.out.non hF03) (HR.out.non hF03) (H2.out.non hF03))
  rw [← hs1] at HK3
  have HA93 := Lib.hid (HA9.out.non hF3)
  have HF03 := Lib.hid hF03
  have HS2 := Lib.hid hs2
  have HS3 := Lib.hid hs3
  have HG30 := Lib.hid hg30
  clear hF3 hF03 hs1 hs2 hs3 hlen hg30
  go_wp2_with fail
  refine HK3.out.mono ?_
  rintro e w4 ⟨b4, c4, rfl, hA4, hF4⟩
  have hF04 := HF03.out.trans hF4 (fun _ _ h => h)
  have hrefs : RefsAt w4 (l ++ [r]) := by
    intro y hy
    rcases List.mem_append.1 hy with hy | hy
    · exact (HR.out.non hF04) y hy
    · rw [List.mem_singleton.1 hy]; exact HRR.out.non hF04
  have hk4 := Shown_l w4 (some ⟨b9, 0, none⟩) c9 (l ++ [r]) ga gc g now HG.out HG30.out (HA93.out.non hF4) hrefs (H2.out.non hF04)
  rw [← HS2.out, HLEN.out, show (l ++ [r]).length = l.length + 1 by simp] at hk4
  have HK4 := Lib.hid hk4
  have HA4 := Lib.hid hA4
  have HF04 := Lib.hid hF04
  clear hA4 hF4 hF04 hrefs hk4
  go_wp2_with fail
  refine HK4.out.mono ?_
  rintro e w5 ⟨b5, c5, rfl, hA5, hF5⟩
  have HF45 := Lib.hid hF5
  have HF05 := Lib.hid (HF04.out.trans hF5 (fun _ _ h => h))
  have HA5 := Lib.hid hA5
  have HB5 := Lib.hid (HF05.out.keep HB0.out (fun h => h))
  have HSH := Lib.hid (fun (W : World) (b c : Nat) (hW : Fr Non w5.drew W) (hg : AtL W (some ⟨b, 0, none⟩) 32 idC (g ++ [r.id])) => (show Calls Try.prog 22 #[.slice a l.length cap, .slice (some ⟨b, 0, none⟩) (g.length + 1) c, .int .i64 now] W fun e w' => ∃ b7 c7, e = .returned (.tuple #[.slice b7 s3.length c7, .int .i64 0]) ∧ AtL w' b7 32 idC s3 ∧ Fr Non W w' from by
    have hW0 : Fr Non w0 W := (HF05.out.drew).trans hW (fun _ _ h => h)
    have := Shown_l W a cap l (some ⟨b, 0, none⟩) c (g ++ [r.id]) now HGL.out (by have := HF.out.2.2; simp; omega) (H.out.non hW0) (HR.out.non hW0) hg
    rw [← HS3.out, show (g ++ [r.id]).length = g.length + 1 by simp] at this
    exact this))
  clear hA5 hF5
  go_wp2_with fail
  generalize hA : (Act.mk _ _) = A
  obtain ⟨A2, hA2⟩ : ∃ A2, A2 = A := ⟨_, rfl⟩
  obtain ⟨Q1, hQ1⟩ : ∃ Q1 : Exit → Act → World → Prop, Q1 = (fun x a' w' => x = .normal ∧ ∃ v58 v60 v63 v64 b7 c7, a' = (((((((((((((((A2.put (some 57) (.slice a l.length cap)).put (some 58) (v58)).put (some 59) (.slice ga g.length gc)).put (some 60) (v60)).put (some 61) (.pointer (some ⟨b0, 0, none⟩))).put (some 62) (.agg (idC r.id).toArray)).put (some 63) (v63)).put (some 64) (v64)).put (some 65) (.int .i64 now)).put (some 66) (.tuple #[.slice b7 s3.length c7, .int .i64 0])).put (some 56) (.tuple #[.slice b7 s3.length c7, .int .i64 0])).put (some 67) (.slice b7 s3.length c7)).put (some 68) (.int .i64 0)).put (some 14) (.slice b7 s3.length c7)).put (some 15) (.int .i64 0)) ∧ AtL w' b7 32 idC s3 ∧ Fr Non w5.drew w') := ⟨_, rfl⟩
  have hQp : ∀ (c : List PanicEntry) (a' : Act) (w' : World), Q1 (.panic c) a' w' → False := by rw [hQ1]; intro c a' w' h; cases h.1
  have HQ1 := Lib.hid hQ1
  clear hQ1
  refine Code.wp_mono (Q := Q1) ?_ ?_
  rotate_left
  · subst hA
    have hf5d : Fr Non w0 w5.drew := HF05.out.drew
    refine rc (fun W : World => Fr Non w5.drew W) 7 (by kernel_rfl) ?_
    have hS : (fun W : World => Fr Non w5.drew W) w5.drew := Fr.refl _ _
    refine tp (i := 0) (v := .slice a l.length cap) rfl (by kernel_rfl) (fun _ _ _ h => (hQp _ _ _ h).elim) rfl (fun W0 => r_move rfl rfl) (.inr hS) ?_
    simp only [Act.put, List.setIfInBounds_toArray, List.set_cons_zero, List.set_cons_succ]
    refine tp (i := 2) (v := .slice ga g.length gc) rfl (by kernel_rfl) (fun _ _ _ h => (hQp _ _ _ h).elim) rfl (fun W0 => r_move rfl rfl) (.inr hS) ?_
    simp only [Act.put, List.setIfInBounds_toArray, List.set_cons_zero, List.set_cons_succ]
    refine tp (i := 4) (v := .pointer (some ⟨b0, 0, none⟩)) rfl (by kernel_rfl) (fun _ _ _ h => (hQp _ _ _ h).elim) rfl (fun W0 => by unfold RunV; go_simp) (.inr hS) ?_
    simp only [Act.put, List.setIfInBounds_toArray, List.set_cons_zero, List.set_cons_succ]
    refine tp (i := 8) (v := .int .i64 now) rfl (by kernel_rfl) (fun _ _ _ h => (hQp _ _ _ h).elim) rfl (fun W0 => r_move rfl rfl) (.inr hS) ?_
    simp only [Act.put, List.setIfInBounds_toArray, List.set_cons_zero, List.set_cons_succ]
    refine tc (i := 5) (v := .agg (idC r.id).toArray) rfl 8 (by kernel_rfl) (fun _ _ _ h => (hQp _ _ _ h).elim) rfl (fun W0 hw => r_load (b := b0) (i := 0) rfl rfl (rng_fr hw (idC_of_row (rangeAt_of (w := w5.drew) HB5.out 0 (rowC r) (by simp)))) Try.underlying31 rfl (by rw [sz31, idC_length])) hS ?_
    simp only [Act.put, List.setIfInBounds_toArray, List.set_cons_zero, List.set_cons_succ]
    refine two (i := 1) (j := 6) rfl rfl (by kernel_rfl) rfl rfl (wp_of_runV (r_buildSlice (vs := []) rfl rfl (buildSlice23_0 w5.drew)) ⟨fun _ => (Fr.refl Non w5.drew).alloc _, ?_⟩) (wp_of_runV (r_buildSlice (vs := [(0, .agg (idC r.id).toArray)]) rfl rfl (buildSlice23_one w5.drew r.id)) ⟨fun _ => (Fr.refl Non w5.drew).alloc _, ?_⟩)
    · simp only [Act.put, List.setIfInBounds_toArray, List.set_cons_zero, List.set_cons_succ]
      have hFa : Fr Non w5.drew (w5.drew.alloc (.cells #[] 31)) := (Fr.refl Non w5.drew).alloc _
      refine two (i := 3) (j := 6) rfl rfl (by kernel_rfl) rfl rfl ?_ ?_
      · obtain ⟨bq5, cq5, wq5, rq5, oq5, hgb, hF5, hG5⟩ := app_many elem31 Try.underlying23 (by omega) (g.length) ga gc hFa (own_empty 31 32 idC w5.drew) (Nat.le_refl _) ((H2.out.non hf5d).non hFa) rfl (by simp) (by have := HF.out.2.2; omega)
        refine wp_of_runV (r_builtin (vs := [.slice (some ⟨w5.drew.heap.size, 0, none⟩) 0 0, .slice ga g.length gc]) rfl rfl (builtin_append rq5)) ⟨fun _ => hF5, ?_⟩
        simp only [Act.put, List.setIfInBounds_toArray, List.set_cons_zero, List.set_cons_succ]
        have hF5x : Fr Non w5.drew (wq5.alloc (.cells (idC r.id).toArray 31)) := hF5.alloc _
        refine oc3 (i := 6) rfl (by kernel_rfl) rfl hF5x (r_buildSlice (vs := [(0, .agg (idC r.id).toArray)]) rfl rfl (buildSlice23_one wq5 r.id)) ?_
        simp only [Act.put, List.setIfInBounds_toArray, List.set_cons_zero, List.set_cons_succ]
        obtain ⟨b6, c6, w6, r6, o6, hb6, hF6⟩ := app_one elem31 Try.underlying23 (by omega) r.id (g.length + 1) wq5.heap.size hF5x (oq5.fr ((Fr.refl Non wq5).alloc _) (fun _ _ h => h)) hgb (heap_alloc_new wq5 _) (by simp) rfl (by have := HF.out.2.2; omega)
        refine oc2 (i := 7) rfl (by kernel_rfl) rfl (by kernel_rfl) (r_builtin (vs := [.slice (some ⟨bq5, 0, none⟩) g.length cq5, .slice (some ⟨wq5.heap.size, 0, none⟩) 1 1]) rfl rfl (builtin_append r6)) ?_
        simp only [Act.put, List.setIfInBounds_toArray, List.set_cons_zero, List.set_cons_succ]
        refine oc4 (i := 9) rfl (by kernel_rfl) rfl (by kernel_rfl) ?_
        unfold Oper.wp
        go_simp
        refine (HSH.out w6 b6 c6 hF6 (AtL.own elem31 o6)).mono ?_
        rintro e w7 ⟨b7, c7, rfl, hA7, hF7⟩
        simp only [Act.put, List.setIfInBounds_toArray, List.set_cons_zero, List.set_cons_succ]
        refine tp (i := 10) (v := .tuple #[.slice b7 s3.length c7, .int .i64 0]) rfl (by kernel_rfl) (fun _ _ _ h => (hQp _ _ _ h).elim) rfl (fun W0 => r_move rfl rfl) (.inl (by kernel_rfl)) ?_
        simp only [Act.put, List.setIfInBounds_toArray, List.set_cons_zero, List.set_cons_succ]
        refine tp (i := 11) (v := .slice b7 s3.length c7) rfl (by kernel_rfl) (fun _ _ _ h => (hQp _ _ _ h).elim) rfl (fun W0 => by unfold RunV; go_simp) (.inl (by kernel_rfl)) ?_
        simp only [Act.put, List.setIfInBounds_toArray, List.set_cons_zero, List.set_cons_succ]
        refine tp (i := 12) (v := .int .i64 0) rfl (by kernel_rfl) (fun _ _ _ h => (hQp _ _ _ h).elim) rfl (fun W0 => by unfold RunV; go_simp) (.inl (by kernel_rfl)) ?_
        simp only [Act.put, List.setIfInBounds_toArray, List.set_cons_zero, List.set_cons_succ]
        refine tp (i := 13) (v := .slice b7 s3.length c7) rfl (by kernel_rfl) (fun _ _ _ h => (hQp _ _ _ h).elim) rfl (fun W0 => r_assign rfl rfl) (.inl (by kernel_rfl)) ?_
        simp only [Act.put, List.setIfInBounds_toArray, List.set_cons_zero, List.set_cons_succ]
        refine tp (i := 14) (v := .int .i64 0) rfl (by kernel_rfl) (fun _ _ _ h => (hQp _ _ _ h).elim) rfl (fun W0 => r_assign rfl rfl) (.inl (by kernel_rfl)) ?_
        simp only [Act.put, List.setIfInBounds_toArray, List.set_cons_zero, List.set_cons_succ]
        refine dc (by kernel_rfl) ?_
        rw [HQ1.out]
        refine ⟨rfl, .slice (some ⟨w5.drew.heap.size, 0, none⟩) 0 0, .slice (some ⟨bq5, 0, none⟩) g.length cq5, .slice (some ⟨wq5.heap.size, 0, none⟩) 1 1, .slice (some ⟨b6, 0, none⟩) (g.length + 1) c6, b7, c7, ?_, hA7, hF6.trans hF7 (fun _ _ h => h)⟩
        rw [hA2]
        simp only [Act.put, List.setIfInBounds_toArray, List.set_cons_zero, List.set_cons_succ]
        go_simp
      · refine wp_of_runV (r_buildSlice (vs := [(0, .agg (idC r.id).toArray)]) rfl rfl (buildSlice23_one (w5.drew.alloc (.cells #[] 31)) r.id)) ⟨fun _ => hFa.alloc _, ?_⟩
        simp only [Act.put, List.setIfInBounds_toArray, List.set_cons_zero, List.set_cons_succ]
        have hFb : Fr Non (w5.drew.alloc (.cells #[] 31)) ((w5.drew.alloc (.cells #[] 31)).alloc (.cells (idC r.id).toArray 31)) := (Fr.refl Non _).alloc _
        have hFab := hFa.trans hFb (fun _ _ h => h)
        have hxb := heap_alloc_new (w5.drew.alloc (.cells #[] 31)) (.cells (idC r.id).toArray 31)
        obtain ⟨bq5, cq5, wq5, rq5, oq5, hgb, hF5, hG5⟩ := app_many elem31 Try.underlying23 (by omega) (g.length) ga gc hFab ((own_empty 31 32 idC w5.drew).fr hFb (fun _ _ h => h)) (Nat.le_refl _) ((H2.out.non hf5d).non hFab) rfl (by simp) (by have := HF.out.2.2; omega)
        refine oc3 (i := 3) rfl (by kernel_rfl) rfl hF5 (r_builtin (vs := [.slice (some ⟨w5.drew.heap.size, 0, none⟩) 0 0, .slice ga g.length gc]) rfl rfl (builtin_append rq5)) ?_
        simp only [Act.put, List.setIfInBounds_toArray, List.set_cons_zero, List.set_cons_succ]
        have hx5 := hG5.keep hxb (fun e => by have e' : (w5.drew.alloc (.cells #[] 31)).heap.size = w5.drew.heap.size := e; rw [World.size_alloc] at e'; omega)
        obtain ⟨b6, c6, w6, r6, o6, hb6, hF6⟩ := app_one elem31 Try.underlying23 (by omega) r.id (g.length + 1) (w5.drew.alloc (.cells #[] 31)).heap.size hF5 oq5 hgb hx5 (by simp) rfl (by have := HF.out.2.2; omega)
        refine oc2 (i := 7) rfl (by kernel_rfl) rfl (by kernel_rfl) (r_builtin (vs := [.slice (some ⟨bq5, 0, none⟩) g.length cq5, .slice (some ⟨(w5.drew.alloc (.cells #[] 31)).heap.size, 0, none⟩) 1 1]) rfl rfl (builtin_append r6)) ?_
        simp only [Act.put, List.setIfInBounds_toArray, List.set_cons_zero, List.set_cons_succ]
        refine oc4 (i := 9) rfl (by kernel_rfl) rfl (by kernel_rfl) ?_
        unfold Oper.wp
        go_simp
        refine (HSH.out w6 b6 c6 hF6 (AtL.own elem31 o6)).mono ?_
        rintro e w7 ⟨b7, c7, rfl, hA7, hF7⟩
        simp only [Act.put, List.setIfInBounds_toArray, List.set_cons_zero, List.set_cons_succ]
        refine tp (i := 10) (v := .tuple #[.slice b7 s3.length c7, .int .i64 0]) rfl (by kernel_rfl) (fun _ _ _ h => (hQp _ _ _ h).elim) rfl (fun W0 => r_move rfl rfl) (.inl (by kernel_rfl)) ?_
        simp only [Act.put, List.setIfInBounds_toArray, List.set_cons_zero, List.set_cons_succ]
        refine tp (i := 11) (v := .slice b7 s3.length c7) rfl (by kernel_rfl) (fun _ _ _ h => (hQp _ _ _ h).elim) rfl (fun W0 => by unfold RunV; go_simp) (.inl (by kernel_rfl)) ?_
        simp only [Act.put, List.setIfInBounds_toArray, List.set_cons_zero, List.set_cons_succ]
        refine tp (i := 12) (v := .int .i64 0) rfl (by kernel_rfl) (fun _ _ _ h => (hQp _ _ _ h).elim) rfl (fun W0 => by unfold RunV; go_simp) (.inl (by kernel_rfl)) ?_
        simp only [Act.put, List.setIfInBounds_toArray, List.set_cons_zero, List.set_cons_succ]
        refine tp (i := 13) (v := .slice b7 s3.length c7) rfl (by kernel_rfl) (fun _ _ _ h => (hQp _ _ _ h).elim) rfl (fun W0 => r_assign rfl rfl) (.inl (by kernel_rfl)) ?_
        simp only [Act.put, List.setIfInBounds_toArray, List.set_cons_zero, List.set_cons_succ]
        refine tp (i := 14) (v := .int .i64 0) rfl (by kernel_rfl) (fun _ _ _ h => (hQp _ _ _ h).elim) rfl (fun W0 => r_assign rfl rfl) (.inl (by kernel_rfl)) ?_
        simp only [Act.put, List.setIfInBounds_toArray, List.set_cons_zero, List.set_cons_succ]
        refine dc (by kernel_rfl) ?_
        rw [HQ1.out]
        refine ⟨rfl, .slice (some ⟨w5.drew.heap.size, 0, none⟩) 0 0, .slice (some ⟨bq5, 0, none⟩) g.length cq5, .slice (some ⟨(w5.drew.alloc (.cells #[] 31)).heap.size, 0, none⟩) 1 1, .slice (some ⟨b6, 0, none⟩) (g.length + 1) c6, b7, c7, ?_, hA7, hF6.trans hF7 (fun _ _ h => h)⟩
        rw [hA2]
        simp only [Act.put, List.setIfInBounds_toArray, List.set_cons_zero, List.set_cons_succ]
        go_simp
    · simp only [Act.put, List.setIfInBounds_toArray, List.set_cons_zero, List.set_cons_succ]
      have hFb : Fr Non w5.drew (w5.drew.alloc (.cells (idC r.id).toArray 31)) := (Fr.refl Non w5.drew).alloc _
      have hxb := heap_alloc_new w5.drew (.cells (idC r.id).toArray 31)
      obtain ⟨wb, hwb⟩ : ∃ wb, w5.drew.alloc (.cells (idC r.id).toArray 31) = wb := ⟨_, rfl⟩
      have hsb : wb.heap.size = w5.drew.heap.size + 1 := hwb ▸ World.size_alloc w5.drew _
      rw [hwb] at hFb hxb ⊢
      have hFc : Fr Non w5.drew (wb.alloc (.cells #[] 31)) := hFb.alloc _
      refine oc3 (i := 1) rfl (by kernel_rfl) rfl hFc (r_buildSlice (vs := []) rfl rfl (buildSlice23_0 wb)) ?_
      simp only [Act.put, List.setIfInBounds_toArray, List.set_cons_zero, List.set_cons_succ]
      obtain ⟨bq5, cq5, wq5, rq5, oq5, hgb, hF5, hG5⟩ := app_many elem31 Try.underlying23 (by omega) (g.length) ga gc hFc (own_empty 31 32 idC wb) (by omega) ((H2.out.non hf5d).non hFc) rfl (by simp) (by have := HF.out.2.2; omega)
      refine oc3 (i := 3) rfl (by kernel_rfl) rfl hF5 (r_builtin (vs := [.slice (some ⟨wb.heap.size, 0, none⟩) 0 0, .slice ga g.length gc]) rfl rfl (builtin_append rq5)) ?_
      simp only [Act.put, List.setIfInBounds_toArray, List.set_cons_zero, List.set_cons_succ]
      have hx5 := hG5.keep (((Fr.refl Non wb).alloc (.cells #[] 31)).keep hxb (fun h => h)) (fun e => by have e' : w5.drew.heap.size = wb.heap.size := e; omega)
      obtain ⟨b6, c6, w6, r6, o6, hb6, hF6⟩ := app_one elem31 Try.underlying23 (by omega) r.id (g.length + 1) w5.drew.heap.size hF5 oq5 hgb hx5 (by simp) rfl (by have := HF.out.2.2; omega)
      refine oc2 (i := 7) rfl (by kernel_rfl) rfl (by kernel_rfl) (r_builtin (vs := [.slice (some ⟨bq5, 0, none⟩) g.length cq5, .slice (some ⟨w5.drew.heap.size, 0, none⟩) 1 1]) rfl rfl (builtin_append r6)) ?_
      simp only [Act.put, List.setIfInBounds_toArray, List.set_cons_zero, List.set_cons_succ]
      refine oc4 (i := 9) rfl (by kernel_rfl) rfl (by kernel_rfl) ?_
      unfold Oper.wp
      go_simp
      refine (HSH.out w6 b6 c6 hF6 (AtL.own elem31 o6)).mono ?_
      rintro e w7 ⟨b7, c7, rfl, hA7, hF7⟩
      simp only [Act.put, List.setIfInBounds_toArray, List.set_cons_zero, List.set_cons_succ]
      refine tp (i := 10) (v := .tuple #[.slice b7 s3.length c7, .int .i64 0]) rfl (by kernel_rfl) (fun _ _ _ h => (hQp _ _ _ h).elim) rfl (fun W0 => r_move rfl rfl) (.inl (by kernel_rfl)) ?_
      simp only [Act.put, List.setIfInBounds_toArray, List.set_cons_zero, List.set_cons_succ]
      refine tp (i := 11) (v := .slice b7 s3.length c7) rfl (by kernel_rfl) (fun _ _ _ h => (hQp _ _ _ h).elim) rfl (fun W0 => by unfold RunV; go_simp) (.inl (by kernel_rfl)) ?_
      simp only [Act.put, List.setIfInBounds_toArray, List.set_cons_zero, List.set_cons_succ]
      refine tp (i := 12) (v := .int .i64 0) rfl (by kernel_rfl) (fun _ _ _ h => (hQp _ _ _ h).elim) rfl (fun W0 => by unfold RunV; go_simp) (.inl (by kernel_rfl)) ?_
      simp only [Act.put, List.setIfInBounds_toArray, List.set_cons_zero, List.set_cons_succ]
      refine tp (i := 13) (v := .slice b7 s3.length c7) rfl (by kernel_rfl) (fun _ _ _ h => (hQp _ _ _ h).elim) rfl (fun W0 => r_assign rfl rfl) (.inl (by kernel_rfl)) ?_
      simp only [Act.put, List.setIfInBounds_toArray, List.set_cons_zero, List.set_cons_succ]
      refine tp (i := 14) (v := .int .i64 0) rfl (by kernel_rfl) (fun _ _ _ h => (hQp _ _ _ h).elim) rfl (fun W0 => r_assign rfl rfl) (.inl (by kernel_rfl)) ?_
      simp only [Act.put, List.setIfInBounds_toArray, List.set_cons_zero, List.set_cons_succ]
      refine dc (by kernel_rfl) ?_
      rw [HQ1.out]
      refine ⟨rfl, .slice (some ⟨wb.heap.size, 0, none⟩) 0 0, .slice (some ⟨bq5, 0, none⟩) g.length cq5, .slice (some ⟨w5.drew.heap.size, 0, none⟩) 1 1, .slice (some ⟨b6, 0, none⟩) (g.length + 1) c6, b7, c7, ?_, hA7, hF6.trans hF7 (fun _ _ h => h)⟩
      rw [hA2]
      simp only [Act.put, List.setIfInBounds_toArray, List.set_cons_zero, List.set_cons_succ]
      go_simp
  rw [HQ1.out]
  rintro x a' w6 ⟨rfl, v58, v60, v63, v64, b7, c7, rfl, hA7, hF6⟩
  subst hA
  subst hA2
  simp only [Act.put, List.setIfInBounds_toArray, List.set_cons_zero, List.set_cons_succ]
  have hF56 : Fr Non w5 w6 := ((Fr.refl Non w5).drew).trans hF6 (fun _ _ h => h)
  have HB6 := Lib.hid (rangeAt_of (hF56.keep HB5.out (fun h => h)) 0 (rowC r) (by simp))
  have HA7 := Lib.hid hA7
  have HA46 := Lib.hid ((HA4.out.non HF45.out).non hF56)
  have HA56 := Lib.hid (HA5.out.non hF56)
  have HF06 := Lib.hid (HF05.out.trans hF56 (fun _ _ h => h))
  clear hA7 hF6 hF56
  have HX := Lib.hid (has_c w6 b5 c5 s2 r.id HSL2.out HA56.out)
  rw [decide_eq_true HLAW0.out, HLEN.out] at HX
  go_wp2_with (first
    | (guard_target =~ wpList _ _ _ (⟨some 82, Op.load 31 _, _, _, _, _⟩ :: _) _ _; refine wlg rfl (r_load (b := b0) (i := 0) rfl rfl (idC_of_row HB6.out) Try.underlying31 rfl (by rw [sz31, idC_length])) ?_; simp only [Act.put, List.setIfInBounds_toArray, List.set_cons_zero, List.set_cons_succ])
    | fail)
  refine HX.out.mono ?_
  rintro e w7 ⟨rfl, hF7⟩
  have HF07 := Lib.hid (HF06.out.trans hF7 (fun _ _ h => h))
  have HA47 := Lib.hid (HA46.out.non hF7)
  have HA57 := Lib.hid (HA56.out.non hF7)
  have HA77 := Lib.hid (HA7.out.non hF7)
  clear hF7
  go_wp2_with fail
  go_loopw [8, 16] (fun u i wr => u = .bool false ∧ ∃ k : Nat, i = .int .i64 k ∧ k ≤ s3.length ∧ Fr Non w7 wr) (fun _ i _ => s3.length - (intOf i).toNat)
  case atStart => exact ⟨rfl, 0, rfl, Nat.zero_le _, Fr.refl _ _⟩
  case round =>
    obtain ⟨rfl, k, rfl, hk, hF⟩ := hrel
    have HFW := Lib.hid hF
    clear hF
    by_cases hlt : k < s3.length
    · obtain ⟨x, hx⟩ : ∃ x, s3[k]? = some x := ⟨_, List.getElem?_eq_getElem hlt⟩
      have hk9 : (k : Int) ≤ 31 := by omega
      obtain ⟨bx, ox, rfl, hxr⟩ := (HA77.out.non HFW.out).get hx
      have HX := Lib.hid (has_c wr b5 c5 s2 x HSL2.out (HA57.out.non HFW.out))
      rw [decide_eq_true (HLAW3.out x (List.mem_of_getElem? hx)), HLEN.out] at HX
      have HXR := Lib.hid hxr
      have HLT := Lib.hid hlt
      clear hxr hx
      go_wp2_with (first
        | (guard_target =~ wpList _ _ _ (⟨some 104, Op.load 31 _, _, _, _, _⟩ :: _) _ _; refine wl rfl (r_load (b := bx) (i := ox + k * 32) rfl rfl HXR.out Try.underlying31 rfl (by rw [sz31, idC_length])) ?_; simp only [Act.put, List.setIfInBounds_toArray, List.set_cons_zero, List.set_cons_succ])
        | fail)
      refine HX.out.mono ?_
      rintro e wr1 ⟨rfl, hf1⟩
      have HF1W := Lib.hid hf1
      clear hf1
      go_wp2_with fail
      go_roundw
      case rel => exact ⟨rfl, k + 1, by go_num, by have := HLT.out; omega, HFW.out.trans HF1W.out (fun _ _ h => h)⟩
      case measure => have := HLT.out; simp [intOf] <;> omega
    · obtain rfl : k = s3.length := by omega
      obtain ⟨w8, hw8⟩ : ∃ w8 : World, w8 = wr := ⟨_, rfl⟩
      subst hw8
      have HF08 := Lib.hid (HF07.out.trans HFW.out (fun _ _ h => h))
      have HA48 := Lib.hid (HA47.out.non HFW.out)
      have HA58 := Lib.hid (HA57.out.non HFW.out)
      clear HFW
      go_wp2_with fail
      go_loopw [8, 17] (fun u i wr => u = .bool false ∧ ∃ k : Nat, i = .int .i64 k ∧ k ≤ s1.length ∧ Fr Non w8 wr) (fun _ i _ => s1.length - (intOf i).toNat)
      case atStart => exact ⟨rfl, 0, rfl, Nat.zero_le _, Fr.refl _ _⟩
      case round =>
        obtain ⟨rfl, k, rfl, hk, hF⟩ := hrel
        have HFW := Lib.hid hF
        clear hF
        by_cases hlt : k < s1.length
        · obtain ⟨x, hx⟩ : ∃ x, s1[k]? = some x := ⟨_, List.getElem?_eq_getElem hlt⟩
          have hk9 : (k : Int) ≤ 31 := by omega
          obtain ⟨bx, ox, rfl, hxr⟩ := (HA48.out.non HFW.out).get hx
          have HX := Lib.hid (has_c wr b5 c5 s2 x HSL2.out (HA58.out.non HFW.out))
          rw [decide_eq_true (HLAW1.out x (List.mem_of_getElem? hx)), HLEN.out] at HX
          have HXR := Lib.hid hxr
          have HLT := Lib.hid hlt
          clear hxr hx
          go_wp2_with (first
            | (guard_target =~ wpList _ _ _ (⟨some 117, Op.load 31 _, _, _, _, _⟩ :: _) _ _; refine wl rfl (r_load (b := bx) (i := ox + k * 32) rfl rfl HXR.out Try.underlying31 rfl (by rw [sz31, idC_length])) ?_; simp only [Act.put, List.setIfInBounds_toArray, List.set_cons_zero, List.set_cons_succ])
            | fail)
          refine HX.out.mono ?_
          rintro e wr1 ⟨rfl, hf1⟩
          have HF1W := Lib.hid hf1
          clear hf1
          go_wp2_with fail
          go_roundw
          case rel => exact ⟨rfl, k + 1, by go_num, by have := HLT.out; omega, HFW.out.trans HF1W.out (fun _ _ h => h)⟩
          case measure => have := HLT.out; simp [intOf] <;> omega
        · obtain rfl : k = s1.length := by omega
          go_wp2_with fail
          go_ret
          exact ⟨rfl, HF0.out.trans (HF08.out.trans HFW.out (fun _ _ h => h)) (fun _ _ h => h)⟩

theorem hole_walk (w : World) (a : Option Addr) (cap : Nat) (l : List Row) (ga : Option Addr) (gc : Nat) (g : List Id) (now : Int) (r : Row) (hl : l.length ≤ 9223372036854775807) (h : AtL w a 83 rowC l) (hr : RefsAt w l) (h2 : AtL w ga 32 idC g) (hrr : AtL w r.ra 32 idC r.refs) :
    Calls Try.prog 5 #[.slice a l.length cap, .slice ga g.length gc, .int .i64 now, .agg (rowC r).toArray] w fun e w' => e = .returned (.bool true) ∧ Fr Non w w' := by
  by_cases hf : Few l g
  · by_cases h0 : r.refs.length = 0
    · by_cases hg : Good (l ++ [r])
      · exact hole_good w a cap l ga gc g now r hl h hr h2 hrr hf h0 hg
      · exact hole_bad w a cap l ga gc g now r hl h hr h2 hrr hf h0 hg
    · exact hole_refs w a cap l ga gc g now r hl h hr h2 hrr hf h0
  · exact hole_few w a cap l ga gc g now r hl h hr h2 hrr hf
end Go.Proofs.Ytfemaeacmnhdlaa
