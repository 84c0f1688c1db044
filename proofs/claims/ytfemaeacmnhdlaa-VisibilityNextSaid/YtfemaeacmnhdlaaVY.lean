/-
  pick: the marked rows' identities, kept sorted by insertion. (Under way.)
-/
import Derived.Test.YtfemaeacmnhdlaaVX
namespace Go.Proofs.Ytfemaeacmnhdlaa
open Go.RowKit Go.Sort

def PickTo (w w' : World) (e : Ending) (l : List Row) (p : Row → Bool) : Prop := ∃ b c, e = .returned (.slice b (l.filter p).length c) ∧ AtL w' b 32 idC (srt ((l.filter p).map (·.id))) ∧ Fr Non w w'

set_option maxRecDepth 100000 in
set_option maxHeartbeats 2000000 in
theorem pick_c (w : World) (a : Option Addr) (cap : Nat) (l : List Row) (g0 : Nat) (p : Row → Bool) (hl : l.length ≤ 30) (h : AtL w a 83 rowC l) (hm : w.heap[g0]? = some (.cells (boolC (l.map p)) 4)) :
    Calls Try.prog 50 #[.slice a l.length cap, .slice (some ⟨g0, 0, none⟩) l.length l.length, .bool true] w fun e w' => PickTo w w' e l p := by
  have H := Lib.hid h
  have HM := Lib.hid hm
  have HL := Lib.hid hl
  clear h hm hl
  go_enter Try.func50, Try.ntmps50
  go_wp2_with fail
  go_loopw [7, 8] (fun v i wr => ∃ (k : Nat) (out : List Id), i = .int .i64 k ∧ k ≤ l.length ∧ Own wr 31 32 idC v out ∧ (∀ b, v.ownBlock = some b → w.heap.size ≤ b) ∧ Srtd out ∧ out.Perm (((l.take k).filter p).map (·.id)) ∧ Fr Non w wr) (fun _ i _ => l.length - (intOf i).toNat)
  case atStart => exact ⟨0, [], rfl, Nat.zero_le _, Own.nil _ _ _ _, (fun b h => by cases h), List.Pairwise.nil, List.Perm.nil, Fr.refl _ _⟩
  case round =>
    obtain ⟨k, out, rfl, hk, hy, hyb, hsr, hpm, hF⟩ := hrel
    have HY := Lib.hid hy
    have HB := Lib.hid hyb
    have HSO := Lib.hid hsr
    have HPM := Lib.hid hpm
    have HFW := Lib.hid hF
    have HOL := Lib.hid (show out.length ≤ 30 from by have h1 := hpm.length_eq; rw [List.length_map] at h1; have h2 := List.length_filter_le p (l.take k); rw [List.length_take] at h2; have := HL.out; omega)
    clear hy hyb hsr hpm hF
    by_cases hlt : k < l.length
    · obtain ⟨r, hr⟩ : ∃ r, l[k]? = some r := ⟨_, List.getElem?_eq_getElem hlt⟩
      have hk9 : (k : Int) ≤ 30 := by have := HL.out; omega
      obtain ⟨b1, o1, rfl, hrr⟩ := (H.out.non HFW.out).get hr
      have HID := Lib.hid (idC_of_row hrr)
      have hck : wr.cell? ⟨g0, k, none⟩ = some (.bool (p r)) := cellOf (HFW.out.keep HM.out (fun h => h)) k (boolC_get _ _ _ (by rw [List.getElem?_map, hr]; rfl))
      have HRE := Lib.hid hr
      have HLT := Lib.hid hlt
      clear hrr hr
      obtain ⟨ya, yc, rfl, hyc, hnil, hya⟩ := Own.shape HY.out
      cases hp : p r with
      | false =>
        rw [hp] at hck
        have e1 := Lib.hid (show ((l.take (k + 1)).filter p) = (l.take k).filter p from by rw [filter_take_succ HRE.out, hp]; simp)
        clear hp hnil hya
        go_wp2_with fail
        go_roundw
        case rel => exact ⟨k + 1, out, by go_num, by have := HLT.out; omega, HY.out, HB.out, HSO.out, by rw [e1.out]; exact HPM.out, HFW.out⟩
        case measure => have := HLT.out; simp [intOf] <;> omega
      | true =>
        rw [hp] at hck
        have e1 := Lib.hid (show ((l.take (k + 1)).filter p).map (·.id) = ((l.take k).filter p).map (·.id) ++ [r.id] from by rw [filter_take_succ HRE.out, hp]; simp)
        clear hp
        obtain ⟨wo, hwo⟩ : ∃ wo : World, wo = wr := ⟨_, rfl⟩
        subst hwo
        cases ya with
        | none =>
          have h0 : out = [] := hnil rfl
          subst h0
          obtain rfl : yc = 0 := by rcases HY.out.2 with ⟨e, _⟩ | ⟨_, _, _, e, _⟩ <;> cases e; rfl
          have HSR : Hid (Srtd (([] : List Id) ++ [r.id] ++ [])) := by show Srtd [r.id]; exact List.pairwise_singleton _ _
          have hpr : ((([] : List Id) ++ [r.id] ++ []).Perm (((l.take (k + 1)).filter p).map (fun y : Row => y.id))) := by rw [e1.out]; exact HPM.out.append_right [r.id]
          have HPR := Lib.hid hpr
          clear hpr
          have HP1 : Hid (AtL wo none 32 idC ([] : List Id)) := .inl rfl
          have HP2 : Hid (AtL wo none 32 idC ([] : List Id)) := .inl rfl
          clear hnil hya
          go_wp2_with fail
          go_loopw [9] (fun i wr => i = .int .i64 0 ∧ Fr Non wo wr) (fun _ _ => 0)
          case atStart => exact ⟨rfl, Fr.refl _ _⟩
          case round =>
            obtain ⟨rfl, hF9⟩ := hrel
            have HF9 := Lib.hid hF9
            clear hF9
            go_wp2_with fail
            refine rc (fun _ : World => True) 15 (by kernel_rfl) ?_
            have hS : (fun _ : World => True) wr.drew := trivial
            refine tp (i := 0) (v := .int .i64 0) rfl (by kernel_rfl) (fun _ _ _ h => h) rfl (fun W0 => r_move rfl rfl) (.inr hS) ?_
            simp only [Act.put, List.setIfInBounds_toArray, List.set_cons_zero, List.set_cons_succ]
            refine tp (i := 1) (v := .slice none 0 0) rfl (by kernel_rfl) (fun _ _ _ h => h) rfl (fun W0 => r_move rfl rfl) (.inr hS) ?_
            simp only [Act.put, List.setIfInBounds_toArray, List.set_cons_zero, List.set_cons_succ]
            refine tp (i := 2) (v := .int .i64 0) rfl (by kernel_rfl) (fun _ _ _ h => h) rfl (fun W0 => by unfold RunV; go_simp) (.inr hS) ?_
            simp only [Act.put, List.setIfInBounds_toArray, List.set_cons_zero, List.set_cons_succ]
            refine tp (i := 3) (v := .bool false) rfl (by kernel_rfl) (fun _ _ _ h => h) rfl (fun W0 => by unfold RunV; go_simp) (.inr hS) ?_
            simp only [Act.put, List.setIfInBounds_toArray, List.set_cons_zero, List.set_cons_succ]
            refine tp (i := 4) (v := .bool false) rfl (by kernel_rfl) (fun _ _ _ h => h) rfl (fun W0 => r_move rfl rfl) (.inr hS) ?_
            simp only [Act.put, List.setIfInBounds_toArray, List.set_cons_zero, List.set_cons_succ]
            refine tpn (i := 5) rfl (by kernel_rfl) (fun _ _ _ h => h) rfl (.inr hS) ?_
            simp only [Act.put, List.setIfInBounds_toArray, List.set_cons_zero, List.set_cons_succ]
            refine tpn (i := 6) rfl (by kernel_rfl) (fun _ _ _ h => h) rfl (.inr hS) ?_
            simp only [Act.put, List.setIfInBounds_toArray, List.set_cons_zero, List.set_cons_succ]
            refine tpn (i := 7) rfl (by kernel_rfl) (fun _ _ _ h => h) rfl (.inr hS) ?_
            simp only [Act.put, List.setIfInBounds_toArray, List.set_cons_zero, List.set_cons_succ]
            refine tpn (i := 9) rfl (by kernel_rfl) (fun _ _ _ h => h) rfl (.inr hS) ?_
            simp only [Act.put, List.setIfInBounds_toArray, List.set_cons_zero, List.set_cons_succ]
            refine tpn (i := 10) rfl (by kernel_rfl) (fun _ _ _ h => h) rfl (.inr hS) ?_
            simp only [Act.put, List.setIfInBounds_toArray, List.set_cons_zero, List.set_cons_succ]
            refine tpn (i := 11) rfl (by kernel_rfl) (fun _ _ _ h => h) rfl (.inr hS) ?_
            simp only [Act.put, List.setIfInBounds_toArray, List.set_cons_zero, List.set_cons_succ]
            refine tpn (i := 12) rfl (by kernel_rfl) (fun _ _ _ h => h) rfl (.inr hS) ?_
            simp only [Act.put, List.setIfInBounds_toArray, List.set_cons_zero, List.set_cons_succ]
            refine tpn (i := 8) rfl (by kernel_rfl) (fun _ _ _ h => h) rfl (.inr hS) ?_
            simp only [Act.put, List.setIfInBounds_toArray, List.set_cons_zero, List.set_cons_succ]
            refine tpn (i := 13) rfl (by kernel_rfl) (fun _ _ _ h => h) rfl (.inr hS) ?_
            simp only [Act.put, List.setIfInBounds_toArray, List.set_cons_zero, List.set_cons_succ]
            refine tpn (i := 14) rfl (by kernel_rfl) (fun _ _ _ h => h) rfl (.inr hS) ?_
            simp only [Act.put, List.setIfInBounds_toArray, List.set_cons_zero, List.set_cons_succ]
            refine oc2 (i := 15) (v := .bool false) rfl (by kernel_rfl) rfl (by kernel_rfl) (r_pick (b := false) rfl rfl rfl) ?_
            simp only [Act.put, List.setIfInBounds_toArray, List.set_cons_zero, List.set_cons_succ]
            refine dc (by kernel_rfl) ?_
            obtain ⟨w9, hw9⟩ : ∃ w9, wr.drew = w9 := ⟨_, rfl⟩
            have HF99 : Hid (Fr Non wo w9) := by rw [← hw9]; exact HF9.out.drew
            rw [hw9]
            clear hw9
            go_wp2_with fail
            have hp1 : AtL w9.drew none 32 idC ([] : List Id) := HP1.out.non ((HF99.out).drew)
            have hp2 : AtL w9.drew none 32 idC ([] : List Id) := HP2.out.non ((HF99.out).drew)
            refine rc (fun W : World => Fr Non w9.drew W) 11 (by kernel_rfl) ?_
            have hS : (fun W : World => Fr Non w9.drew W) w9.drew := Fr.refl _ _
            refine tp (i := 1) (v := .slice none 0 0) rfl (by kernel_rfl) (fun _ _ _ h => h) rfl (fun W0 => r_move rfl rfl) (.inr hS) ?_
            simp only [Act.put, List.setIfInBounds_toArray, List.set_cons_zero, List.set_cons_succ]
            refine tp (i := 2) (v := .int .i64 0) rfl (by kernel_rfl) (fun _ _ _ h => h) rfl (fun W0 => r_move rfl rfl) (.inr hS) ?_
            simp only [Act.put, List.setIfInBounds_toArray, List.set_cons_zero, List.set_cons_succ]
            refine tp (i := 3) (v := .slice none 0 0) rfl (by kernel_rfl) (fun _ _ _ h => h) rfl (fun W0 => by unfold RunV; go_simp) (.inr hS) ?_
            simp only [Act.put, List.setIfInBounds_toArray, List.set_cons_zero, List.set_cons_succ]
            refine tp (i := 5) (v := .slice (some ⟨b1, o1, none⟩) l.length cap) rfl (by kernel_rfl) (fun _ _ _ h => h) rfl (fun W0 => r_move rfl rfl) (.inr hS) ?_
            simp only [Act.put, List.setIfInBounds_toArray, List.set_cons_zero, List.set_cons_succ]
            refine tp (i := 6) (v := .int .i64 (k : Int)) rfl (by kernel_rfl) (fun _ _ _ h => h) rfl (fun W0 => r_move rfl rfl) (.inr hS) ?_
            simp only [Act.put, List.setIfInBounds_toArray, List.set_cons_zero, List.set_cons_succ]
            refine tp (i := 7) (v := .pointer (some ⟨b1, o1 + k * 83, none⟩)) rfl (by kernel_rfl) (fun _ _ _ h => h) rfl (fun W0 => by unfold RunV; go_simp) (.inr hS) ?_
            simp only [Act.put, List.setIfInBounds_toArray, List.set_cons_zero, List.set_cons_succ]
            refine tp (i := 8) (v := .pointer (some ⟨b1, o1 + k * 83, none⟩)) rfl (by kernel_rfl) (fun _ _ _ h => h) rfl (fun W0 => by unfold RunV; go_simp) (.inr hS) ?_
            simp only [Act.put, List.setIfInBounds_toArray, List.set_cons_zero, List.set_cons_succ]
            refine tp (i := 12) (v := .slice none 0 0) rfl (by kernel_rfl) (fun _ _ _ h => h) rfl (fun W0 => r_move rfl rfl) (.inr hS) ?_
            simp only [Act.put, List.setIfInBounds_toArray, List.set_cons_zero, List.set_cons_succ]
            refine tp (i := 13) (v := .int .i64 0) rfl (by kernel_rfl) (fun _ _ _ h => h) rfl (fun W0 => r_move rfl rfl) (.inr hS) ?_
            simp only [Act.put, List.setIfInBounds_toArray, List.set_cons_zero, List.set_cons_succ]
            refine tp (i := 14) (v := .slice none 0 0) rfl (by kernel_rfl) (fun _ _ _ h => h) rfl (fun W0 => by unfold RunV; go_simp) (.inr hS) ?_
            simp only [Act.put, List.setIfInBounds_toArray, List.set_cons_zero, List.set_cons_succ]
            refine tc (i := 9) (v := .agg (idC r.id).toArray) rfl 8 (by kernel_rfl) (fun _ _ _ h => h) rfl (fun W0 hw => r_load (b := b1) (i := o1 + k * 83) rfl rfl (rng_fr (((HF99.out).drew).trans hw (fun _ _ h => h)) HID.out) Try.underlying31 rfl (by rw [sz31, idC_length])) hS ?_
            simp only [Act.put, List.setIfInBounds_toArray, List.set_cons_zero, List.set_cons_succ]
            refine two (i := 0) (j := 10) rfl rfl (by kernel_rfl) rfl rfl (wp_of_runV (r_buildSlice (vs := []) rfl rfl (buildSlice23_0 w9.drew)) ⟨fun _ => (Fr.refl Non w9.drew).alloc _, ?_⟩) (wp_of_runV (r_buildSlice (vs := [(0, .agg (idC r.id).toArray)]) rfl rfl (buildSlice23_one w9.drew r.id)) ⟨fun _ => (Fr.refl Non w9.drew).alloc _, ?_⟩)
            · simp only [Act.put, List.setIfInBounds_toArray, List.set_cons_zero, List.set_cons_succ]
              have hFa : Fr Non w9.drew (w9.drew.alloc (.cells #[] 31)) := (Fr.refl Non w9.drew).alloc _
              refine two (i := 4) (j := 10) rfl rfl (by kernel_rfl) rfl rfl ?_ ?_
              · obtain ⟨bq5, cq5, wq5, rq5, oq5, hgb, hF5, hG5⟩ := app_many elem31 Try.underlying23 (by omega) (([] : List Id).length) none 0 hFa (own_empty 31 32 idC w9.drew) (Nat.le_refl _) (hp1.non hFa) rfl (by simp) (by omega)
                refine wp_of_runV (r_builtin (vs := [.slice (some ⟨w9.drew.heap.size, 0, none⟩) 0 0, .slice none ([] : List Id).length 0]) rfl rfl (builtin_append rq5)) ⟨fun _ => hF5, ?_⟩
                simp only [Act.put, List.setIfInBounds_toArray, List.set_cons_zero, List.set_cons_succ]
                have hF5x : Fr Non w9.drew (wq5.alloc (.cells (idC r.id).toArray 31)) := hF5.alloc _
                refine oc3 (i := 10) rfl (by kernel_rfl) rfl hF5x (r_buildSlice (vs := [(0, .agg (idC r.id).toArray)]) rfl rfl (buildSlice23_one wq5 r.id)) ?_
                simp only [Act.put, List.setIfInBounds_toArray, List.set_cons_zero, List.set_cons_succ]
                obtain ⟨b6, c6, w6, r6, o6, hb6, hF6⟩ := app_one elem31 Try.underlying23 (by omega) r.id (([] : List Id).length + 1) wq5.heap.size hF5x (oq5.fr ((Fr.refl Non wq5).alloc _) (fun _ _ h => h)) hgb (heap_alloc_new wq5 _) (by simp) rfl (by omega)
                refine oc2 (i := 11) rfl (by kernel_rfl) rfl (by kernel_rfl) (r_builtin (vs := [.slice (some ⟨bq5, 0, none⟩) ([] : List Id).length cq5, .slice (some ⟨wq5.heap.size, 0, none⟩) 1 1]) rfl rfl (builtin_append r6)) ?_
                simp only [Act.put, List.setIfInBounds_toArray, List.set_cons_zero, List.set_cons_succ]
                obtain ⟨b8, c8, w8, r8, o8, hb8, hF8, -⟩ := app_many elem31 Try.underlying23 (by omega) (([] : List Id).length + 1 + ([] : List Id).length) none 0 hF6 o6 hb6 (hp2.non hF6) (by simp) rfl (by omega)
                refine oc2 (i := 15) rfl (by kernel_rfl) rfl (by kernel_rfl) (r_builtin (vs := [.slice (some ⟨b6, 0, none⟩) (([] : List Id).length + 1) c6, .slice none ([] : List Id).length 0]) rfl rfl (builtin_append r8)) ?_
                simp only [Act.put, List.setIfInBounds_toArray, List.set_cons_zero, List.set_cons_succ]
                refine tp (i := 16) (v := .slice (some ⟨b8, 0, none⟩) (([] : List Id).length + 1 + ([] : List Id).length) c8) rfl (by kernel_rfl) (fun _ _ _ h => h) rfl (fun W0 => r_assign rfl rfl) (.inl (by kernel_rfl)) ?_
                simp only [Act.put, List.setIfInBounds_toArray, List.set_cons_zero, List.set_cons_succ]
                refine dc (by kernel_rfl) ?_
                have HO8 := Lib.hid (And.intro o8 (And.intro hb8 hF8))
                clear r6 o6 hb6 hF6 r8 o8 hb8 hF8
                go_wp2_with fail
                go_roundw
                case rel => exact ⟨k + 1, ([] : List Id) ++ [r.id] ++ ([] : List Id), by go_num, by have := HLT.out; omega, HO8.out.1, fun b hb => (by cases hb; exact Nat.le_trans (HFW.out.trans HF99.out (fun _ _ h => h)).size HO8.out.2.1), HSR.out, HPR.out, (HFW.out.trans HF99.out (fun _ _ h => h)).trans (((Fr.refl Non w9).drew).trans HO8.out.2.2 (fun _ _ h => h)) (fun _ _ h => h)⟩
                case measure => have := HLT.out; simp [intOf] <;> omega
              · refine wp_of_runV (r_buildSlice (vs := [(0, .agg (idC r.id).toArray)]) rfl rfl (buildSlice23_one (w9.drew.alloc (.cells #[] 31)) r.id)) ⟨fun _ => hFa.alloc _, ?_⟩
                simp only [Act.put, List.setIfInBounds_toArray, List.set_cons_zero, List.set_cons_succ]
                have hFb : Fr Non (w9.drew.alloc (.cells #[] 31)) ((w9.drew.alloc (.cells #[] 31)).alloc (.cells (idC r.id).toArray 31)) := (Fr.refl Non _).alloc _
                have hFab := hFa.trans hFb (fun _ _ h => h)
                have hxb := heap_alloc_new (w9.drew.alloc (.cells #[] 31)) (.cells (idC r.id).toArray 31)
                obtain ⟨bq5, cq5, wq5, rq5, oq5, hgb, hF5, hG5⟩ := app_many elem31 Try.underlying23 (by omega) (([] : List Id).length) none 0 hFab ((own_empty 31 32 idC w9.drew).fr hFb (fun _ _ h => h)) (Nat.le_refl _) (hp1.non hFab) rfl (by simp) (by omega)
                refine oc3 (i := 4) rfl (by kernel_rfl) rfl hF5 (r_builtin (vs := [.slice (some ⟨w9.drew.heap.size, 0, none⟩) 0 0, .slice none ([] : List Id).length 0]) rfl rfl (builtin_append rq5)) ?_
                simp only [Act.put, List.setIfInBounds_toArray, List.set_cons_zero, List.set_cons_succ]
                have hx5 := hG5.keep hxb (fun e => by have e' : (w9.drew.alloc (.cells #[] 31)).heap.size = w9.drew.heap.size := e; rw [World.size_alloc] at e'; omega)
                obtain ⟨b6, c6, w6, r6, o6, hb6, hF6⟩ := app_one elem31 Try.underlying23 (by omega) r.id (([] : List Id).length + 1) (w9.drew.alloc (.cells #[] 31)).heap.size hF5 oq5 hgb hx5 (by simp) rfl (by omega)
                refine oc2 (i := 11) rfl (by kernel_rfl) rfl (by kernel_rfl) (r_builtin (vs := [.slice (some ⟨bq5, 0, none⟩) ([] : List Id).length cq5, .slice (some ⟨(w9.drew.alloc (.cells #[] 31)).heap.size, 0, none⟩) 1 1]) rfl rfl (builtin_append r6)) ?_
                simp only [Act.put, List.setIfInBounds_toArray, List.set_cons_zero, List.set_cons_succ]
                obtain ⟨b8, c8, w8, r8, o8, hb8, hF8, -⟩ := app_many elem31 Try.underlying23 (by omega) (([] : List Id).length + 1 + ([] : List Id).length) none 0 hF6 o6 hb6 (hp2.non hF6) (by simp) rfl (by omega)
                refine oc2 (i := 15) rfl (by kernel_rfl) rfl (by kernel_rfl) (r_builtin (vs := [.slice (some ⟨b6, 0, none⟩) (([] : List Id).length + 1) c6, .slice none ([] : List Id).length 0]) rfl rfl (builtin_append r8)) ?_
                simp only [Act.put, List.setIfInBounds_toArray, List.set_cons_zero, List.set_cons_succ]
                refine tp (i := 16) (v := .slice (some ⟨b8, 0, none⟩) (([] : List Id).length + 1 + ([] : List Id).length) c8) rfl (by kernel_rfl) (fun _ _ _ h => h) rfl (fun W0 => r_assign rfl rfl) (.inl (by kernel_rfl)) ?_
                simp only [Act.put, List.setIfInBounds_toArray, List.set_cons_zero, List.set_cons_succ]
                refine dc (by kernel_rfl) ?_
                have HO8 := Lib.hid (And.intro o8 (And.intro hb8 hF8))
                clear r6 o6 hb6 hF6 r8 o8 hb8 hF8
                go_wp2_with fail
                go_roundw
                case rel => exact ⟨k + 1, ([] : List Id) ++ [r.id] ++ ([] : List Id), by go_num, by have := HLT.out; omega, HO8.out.1, fun b hb => (by cases hb; exact Nat.le_trans (HFW.out.trans HF99.out (fun _ _ h => h)).size HO8.out.2.1), HSR.out, HPR.out, (HFW.out.trans HF99.out (fun _ _ h => h)).trans (((Fr.refl Non w9).drew).trans HO8.out.2.2 (fun _ _ h => h)) (fun _ _ h => h)⟩
                case measure => have := HLT.out; simp [intOf] <;> omega
            · simp only [Act.put, List.setIfInBounds_toArray, List.set_cons_zero, List.set_cons_succ]
              have hFb : Fr Non w9.drew (w9.drew.alloc (.cells (idC r.id).toArray 31)) := (Fr.refl Non w9.drew).alloc _
              have hxb := heap_alloc_new w9.drew (.cells (idC r.id).toArray 31)
              obtain ⟨wb, hwb⟩ : ∃ wb, w9.drew.alloc (.cells (idC r.id).toArray 31) = wb := ⟨_, rfl⟩
              have hsb : wb.heap.size = w9.drew.heap.size + 1 := hwb ▸ World.size_alloc w9.drew _
              rw [hwb] at hFb hxb ⊢
              have hFc : Fr Non w9.drew (wb.alloc (.cells #[] 31)) := hFb.alloc _
              refine oc3 (i := 0) rfl (by kernel_rfl) rfl hFc (r_buildSlice (vs := []) rfl rfl (buildSlice23_0 wb)) ?_
              simp only [Act.put, List.setIfInBounds_toArray, List.set_cons_zero, List.set_cons_succ]
              obtain ⟨bq5, cq5, wq5, rq5, oq5, hgb, hF5, hG5⟩ := app_many elem31 Try.underlying23 (by omega) (([] : List Id).length) none 0 hFc (own_empty 31 32 idC wb) (by omega) (hp1.non hFc) rfl (by simp) (by omega)
              refine oc3 (i := 4) rfl (by kernel_rfl) rfl hF5 (r_builtin (vs := [.slice (some ⟨wb.heap.size, 0, none⟩) 0 0, .slice none ([] : List Id).length 0]) rfl rfl (builtin_append rq5)) ?_
              simp only [Act.put, List.setIfInBounds_toArray, List.set_cons_zero, List.set_cons_succ]
              have hx5 := hG5.keep (((Fr.refl Non wb).alloc (.cells #[] 31)).keep hxb (fun h => h)) (fun e => by have e' : w9.drew.heap.size = wb.heap.size := e; omega)
              obtain ⟨b6, c6, w6, r6, o6, hb6, hF6⟩ := app_one elem31 Try.underlying23 (by omega) r.id (([] : List Id).length + 1) w9.drew.heap.size hF5 oq5 hgb hx5 (by simp) rfl (by omega)
              refine oc2 (i := 11) rfl (by kernel_rfl) rfl (by kernel_rfl) (r_builtin (vs := [.slice (some ⟨bq5, 0, none⟩) ([] : List Id).length cq5, .slice (some ⟨w9.drew.heap.size, 0, none⟩) 1 1]) rfl rfl (builtin_append r6)) ?_
              simp only [Act.put, List.setIfInBounds_toArray, List.set_cons_zero, List.set_cons_succ]
              obtain ⟨b8, c8, w8, r8, o8, hb8, hF8, -⟩ := app_many elem31 Try.underlying23 (by omega) (([] : List Id).length + 1 + ([] : List Id).length) none 0 hF6 o6 hb6 (hp2.non hF6) (by simp) rfl (by omega)
              refine oc2 (i := 15) rfl (by kernel_rfl) rfl (by kernel_rfl) (r_builtin (vs := [.slice (some ⟨b6, 0, none⟩) (([] : List Id).length + 1) c6, .slice none ([] : List Id).length 0]) rfl rfl (builtin_append r8)) ?_
              simp only [Act.put, List.setIfInBounds_toArray, List.set_cons_zero, List.set_cons_succ]
              refine tp (i := 16) (v := .slice (some ⟨b8, 0, none⟩) (([] : List Id).length + 1 + ([] : List Id).length) c8) rfl (by kernel_rfl) (fun _ _ _ h => h) rfl (fun W0 => r_assign rfl rfl) (.inl (by kernel_rfl)) ?_
              simp only [Act.put, List.setIfInBounds_toArray, List.set_cons_zero, List.set_cons_succ]
              refine dc (by kernel_rfl) ?_
              have HO8 := Lib.hid (And.intro o8 (And.intro hb8 hF8))
              clear r6 o6 hb6 hF6 r8 o8 hb8 hF8
              go_wp2_with fail
              go_roundw
              case rel => exact ⟨k + 1, ([] : List Id) ++ [r.id] ++ ([] : List Id), by go_num, by have := HLT.out; omega, HO8.out.1, fun b hb => (by cases hb; exact Nat.le_trans (HFW.out.trans HF99.out (fun _ _ h => h)).size HO8.out.2.1), HSR.out, HPR.out, (HFW.out.trans HF99.out (fun _ _ h => h)).trans (((Fr.refl Non w9).drew).trans HO8.out.2.2 (fun _ _ h => h)) (fun _ _ h => h)⟩
              case measure => have := HLT.out; simp [intOf] <;> omega
        | some ad =>
          obtain ⟨gy, rfl⟩ := hya ad rfl
          clear hnil hya
          go_wp2_with fail
          go_loopw [9] (fun i wr => ∃ j : Nat, i = .int .i64 j ∧ j ≤ out.length ∧ (∀ y ∈ out.take j, ltOf cmpId y r.id = true) ∧ Fr Non wo wr) (fun i _ => out.length - (intOf i).toNat)
          case atStart => exact ⟨0, rfl, Nat.zero_le _, by simp, Fr.refl _ _⟩
          case round =>
            obtain ⟨j, rfl, hj, hall, hF9⟩ := hrel
            have HALL := Lib.hid hall
            have HF9 := Lib.hid hF9
            have hj30 : (j : Int) ≤ 30 := by have := HOL.out; omega
            have ho30 : (out.length : Int) ≤ 30 := by have := HOL.out; omega
            clear hall hF9
            by_cases hlj : j < out.length
            · obtain ⟨y, hy⟩ : ∃ y, out[j]? = some y := ⟨_, List.getElem?_eq_getElem hlj⟩
              obtain ⟨by', oy', ey, hyr⟩ := ((AtL.own elem31 HY.out).non HF9.out).get hy
              cases ey
              rw [Nat.zero_add] at hyr
              have hlj' : (j : Int) < (out.length : Int) := by omega
              have HYR := Lib.hid (rng_fr ((Fr.refl Non wr).drew) hyr)
              have HIR := Lib.hid (rng_fr (HF9.out.drew) HID.out)
              obtain ⟨bb, hbb⟩ : ∃ bb, bb = ltOf cmpId y r.id := ⟨_, rfl⟩
              have HBB := Lib.hid hbb
              have hbf := fun W => before_c W y r.id
              rw [← hbb] at hbf
              have HBF := Lib.hid hbf
              have HYE := Lib.hid hy
              have HLJ := Lib.hid hlj
              clear hyr hy hbb hbf
              go_wp2_with fail
              refine rc (fun W : World => Fr Non wr.drew W) 14 (by kernel_rfl) ?_
              have hS : (fun W : World => Fr Non wr.drew W) wr.drew := Fr.refl _ _
              refine tp (i := 0) (v := .int .i64 (j : Int)) rfl (by kernel_rfl) (fun _ _ _ h => h) rfl (fun W0 => r_move rfl rfl) (.inr hS) ?_
              simp only [Act.put, List.setIfInBounds_toArray, List.set_cons_zero, List.set_cons_succ]
              refine tp (i := 1) (v := .slice (some ⟨gy, 0, none⟩) out.length yc) rfl (by kernel_rfl) (fun _ _ _ h => h) rfl (fun W0 => r_move rfl rfl) (.inr hS) ?_
              simp only [Act.put, List.setIfInBounds_toArray, List.set_cons_zero, List.set_cons_succ]
              refine tp (i := 2) (v := .int .i64 (out.length : Int)) rfl (by kernel_rfl) (fun _ _ _ h => h) rfl (fun W0 => by unfold RunV; go_simp) (.inr hS) ?_
              simp only [Act.put, List.setIfInBounds_toArray, List.set_cons_zero, List.set_cons_succ]
              refine tp (i := 3) (v := .bool true) rfl (by kernel_rfl) (fun _ _ _ h => h) rfl (fun W0 => by unfold RunV; go_simp) (.inr hS) ?_
              simp only [Act.put, List.setIfInBounds_toArray, List.set_cons_zero, List.set_cons_succ]
              refine tp (i := 4) (v := .bool true) rfl (by kernel_rfl) (fun _ _ _ h => h) rfl (fun W0 => r_move rfl rfl) (.inr hS) ?_
              simp only [Act.put, List.setIfInBounds_toArray, List.set_cons_zero, List.set_cons_succ]
              refine tpg (i := 5) (v := .slice (some ⟨gy, 0, none⟩) out.length yc) rfl (by kernel_rfl) (fun _ _ _ h => h) rfl (fun W0 => r_move rfl rfl) (.inr hS) ?_
              simp only [Act.put, List.setIfInBounds_toArray, List.set_cons_zero, List.set_cons_succ]
              refine tpg (i := 6) (v := .int .i64 (j : Int)) rfl (by kernel_rfl) (fun _ _ _ h => h) rfl (fun W0 => r_move rfl rfl) (.inr hS) ?_
              simp only [Act.put, List.setIfInBounds_toArray, List.set_cons_zero, List.set_cons_succ]
              refine tpg (i := 7) (v := .pointer (some ⟨gy, j * 32, none⟩)) rfl (by kernel_rfl) (fun _ _ _ h => h) rfl (fun W0 => by unfold RunV; go_simp) (.inr hS) ?_
              simp only [Act.put, List.setIfInBounds_toArray, List.set_cons_zero, List.set_cons_succ]
              refine tpg (i := 9) (v := .slice (some ⟨b1, o1, none⟩) l.length cap) rfl (by kernel_rfl) (fun _ _ _ h => h) rfl (fun W0 => r_move rfl rfl) (.inr hS) ?_
              simp only [Act.put, List.setIfInBounds_toArray, List.set_cons_zero, List.set_cons_succ]
              refine tpg (i := 10) (v := .int .i64 (k : Int)) rfl (by kernel_rfl) (fun _ _ _ h => h) rfl (fun W0 => r_move rfl rfl) (.inr hS) ?_
              simp only [Act.put, List.setIfInBounds_toArray, List.set_cons_zero, List.set_cons_succ]
              refine tpg (i := 11) (v := .pointer (some ⟨b1, o1 + k * 83, none⟩)) rfl (by kernel_rfl) (fun _ _ _ h => h) rfl (fun W0 => by unfold RunV; go_simp) (.inr hS) ?_
              simp only [Act.put, List.setIfInBounds_toArray, List.set_cons_zero, List.set_cons_succ]
              refine tpg (i := 12) (v := .pointer (some ⟨b1, o1 + k * 83, none⟩)) rfl (by kernel_rfl) (fun _ _ _ h => h) rfl (fun W0 => by unfold RunV; go_simp) (.inr hS) ?_
              simp only [Act.put, List.setIfInBounds_toArray, List.set_cons_zero, List.set_cons_succ]
              refine tcg (i := 8) (v := .agg (idC y).toArray) rfl 8 (by kernel_rfl) (fun _ _ _ h => h) rfl (fun W0 hw => r_load (b := gy) (i := j * 32) rfl rfl (rng_fr hw HYR.out) Try.underlying31 rfl (by rw [sz31, idC_length])) hS ?_
              simp only [Act.put, List.setIfInBounds_toArray, List.set_cons_zero, List.set_cons_succ]
              refine tcg (i := 13) (v := .agg (idC r.id).toArray) rfl 8 (by kernel_rfl) (fun _ _ _ h => h) rfl (fun W0 hw => r_load (b := b1) (i := o1 + k * 83) rfl rfl (rng_fr hw HIR.out) Try.underlying31 rfl (by rw [sz31, idC_length])) hS ?_
              simp only [Act.put, List.setIfInBounds_toArray, List.set_cons_zero, List.set_cons_succ]
              refine og1 (i := 14) rfl (by kernel_rfl) rfl ?_
              unfold Oper.wp
              go_simp
              refine (HBF.out _).mono ?_
              rintro e w7 ⟨rfl, hF8⟩
              have HF8 := Lib.hid hF8
              clear hF8
              refine tp (i := 15) (v := .bool bb) rfl (by kernel_rfl) (fun _ _ _ h => h) rfl (fun W0 => r_pick (b := true) rfl rfl rfl) (.inl (by kernel_rfl)) ?_
              simp only [Act.put, List.setIfInBounds_toArray, List.set_cons_zero, List.set_cons_succ]
              refine dc (by kernel_rfl) ?_
              have HF98 := Lib.hid ((HF9.out.drew).trans HF8.out (fun _ _ h => h))
              cases bb with
              | true =>
                clear hS
                go_wp2_with fail
                go_roundw
                case rel => exact ⟨j + 1, by go_num, by have := HLJ.out; omega, fun z hz => ((mem_take_succ HYE.out z).1 hz).elim (HALL.out z) (fun e => e ▸ HBB.out.symm), HF98.out⟩
                case measure => have := HLJ.out; simp [intOf] <;> omega
              | false =>
                clear hS
                have HSTOP := Lib.hid (show ∀ z, out[j]? = some z → ltOf cmpId z r.id = false from fun z hz => by have h1 := HYE.out; rw [hz] at h1; cases h1; exact HBB.out.symm)
                go_wp2_with fail
                obtain ⟨p1, hp1⟩ : ∃ p1, p1 = out.take j := ⟨_, rfl⟩
                obtain ⟨p2, hp2⟩ : ∃ p2, p2 = out.drop j := ⟨_, rfl⟩
                have hj1 : j = p1.length := by rw [hp1, List.length_take]; omega
                have hol : out.length = p1.length + p2.length := by rw [hp1, hp2, List.length_take, List.length_drop]; omega
                have hpr := (ins_perm out r.id j).trans (HPM.out.append_right [r.id])
                have hsr := srtd_ins (i := j) HSO.out HALL.out HSTOP.out
                rw [← hp1, ← hp2] at hpr hsr
                have HSR : Hid (Srtd (p1 ++ [r.id] ++ p2)) := Lib.hid (by rw [List.append_assoc]; exact hsr)
                have HPR := Lib.hid (show (p1 ++ [r.id] ++ p2).Perm (((l.take (k + 1)).filter p).map (fun y : Row => y.id)) from by rw [e1.out, List.append_assoc]; exact hpr)
                have ha1 := (AtL.own elem31 HY.out).take j
                have ha2 := (AtL.own elem31 HY.out).drop j
                rw [← hp1] at ha1
                rw [← hp2, hj1, Nat.zero_add] at ha2
                have HP1 := Lib.hid ha1
                obtain ⟨o2, ho2⟩ : ∃ o2 : Nat, (yc = p1.length ∧ o2 = 0) ∨ (yc ≠ p1.length ∧ o2 = p1.length * 32) := by
                  by_cases hz : yc = p1.length
                  · exact ⟨0, .inl ⟨hz, rfl⟩⟩
                  · exact ⟨_, .inr ⟨hz, rfl⟩⟩
                have hp2a : AtL wo (some ⟨gy, o2, none⟩) 32 idC p2 := by
                  rcases ho2 with ⟨h1, _⟩ | ⟨_, h1⟩
                  · exact .inl (List.eq_nil_of_length_eq_zero (by omega))
                  · rw [h1]; exact ha2
                have HP2 := Lib.hid hp2a
                have HO2 := Lib.hid ho2
                clear hp2a ho2
                have hle : (p1.length : Int) + p2.length ≤ 30 := by have := HOL.out; omega
                have hyc2 : p1.length + p2.length ≤ yc := by omega
                have hy3 : p1.length ≤ yc := by omega
                have hy4 : (p1.length : Int) ≤ (p1.length : Int) + (p2.length : Int) := by omega
                have HOL2 := Lib.hid (show p1.length + p2.length ≤ 30 from by have := HOL.out; omega)
                clear hpr hsr ha1 ha2 hp1 hp2
                rw [hj1, hol]
                clear hj1 hol
                have hp1 : AtL w7.drew (some ⟨gy, 0, none⟩) 32 idC p1 := HP1.out.non ((HF98.out).drew)
                have hp2 : AtL w7.drew (some ⟨gy, o2, none⟩) 32 idC p2 := HP2.out.non ((HF98.out).drew)
                refine rc (fun W : World => Fr Non w7.drew W) 11 (by kernel_rfl) ?_
                have hS : (fun W : World => Fr Non w7.drew W) w7.drew := Fr.refl _ _
                refine tp (i := 1) (v := .slice (some ⟨gy, 0, none⟩) (p1.length + p2.length) yc) rfl (by kernel_rfl) (fun _ _ _ h => h) rfl (fun W0 => r_move rfl rfl) (.inr hS) ?_
                simp only [Act.put, List.setIfInBounds_toArray, List.set_cons_zero, List.set_cons_succ]
                refine tp (i := 2) (v := .int .i64 (p1.length : Int)) rfl (by kernel_rfl) (fun _ _ _ h => h) rfl (fun W0 => r_move rfl rfl) (.inr hS) ?_
                simp only [Act.put, List.setIfInBounds_toArray, List.set_cons_zero, List.set_cons_succ]
                refine tp (i := 3) (v := .slice (some ⟨gy, 0, none⟩) p1.length yc) rfl (by kernel_rfl) (fun _ _ _ h => h) rfl (fun W0 => by unfold RunV; go_simp) (.inr hS) ?_
                simp only [Act.put, List.setIfInBounds_toArray, List.set_cons_zero, List.set_cons_succ]
                refine tp (i := 5) (v := .slice (some ⟨b1, o1, none⟩) l.length cap) rfl (by kernel_rfl) (fun _ _ _ h => h) rfl (fun W0 => r_move rfl rfl) (.inr hS) ?_
                simp only [Act.put, List.setIfInBounds_toArray, List.set_cons_zero, List.set_cons_succ]
                refine tp (i := 6) (v := .int .i64 (k : Int)) rfl (by kernel_rfl) (fun _ _ _ h => h) rfl (fun W0 => r_move rfl rfl) (.inr hS) ?_
                simp only [Act.put, List.setIfInBounds_toArray, List.set_cons_zero, List.set_cons_succ]
                refine tp (i := 7) (v := .pointer (some ⟨b1, o1 + k * 83, none⟩)) rfl (by kernel_rfl) (fun _ _ _ h => h) rfl (fun W0 => by unfold RunV; go_simp) (.inr hS) ?_
                simp only [Act.put, List.setIfInBounds_toArray, List.set_cons_zero, List.set_cons_succ]
                refine tp (i := 8) (v := .pointer (some ⟨b1, o1 + k * 83, none⟩)) rfl (by kernel_rfl) (fun _ _ _ h => h) rfl (fun W0 => by unfold RunV; go_simp) (.inr hS) ?_
                simp only [Act.put, List.setIfInBounds_toArray, List.set_cons_zero, List.set_cons_succ]
                refine tp (i := 12) (v := .slice (some ⟨gy, 0, none⟩) (p1.length + p2.length) yc) rfl (by kernel_rfl) (fun _ _ _ h => h) rfl (fun W0 => r_move rfl rfl) (.inr hS) ?_
                simp only [Act.put, List.setIfInBounds_toArray, List.set_cons_zero, List.set_cons_succ]
                refine tp (i := 13) (v := .int .i64 (p1.length : Int)) rfl (by kernel_rfl) (fun _ _ _ h => h) rfl (fun W0 => r_move rfl rfl) (.inr hS) ?_
                simp only [Act.put, List.setIfInBounds_toArray, List.set_cons_zero, List.set_cons_succ]
                refine tp (i := 14) (v := .slice (some ⟨gy, o2, none⟩) p2.length (yc - p1.length)) rfl (by kernel_rfl) (fun _ _ _ h => h) rfl (fun W0 => by rcases HO2.out with ⟨h1, h2⟩ | ⟨h1, h2⟩ <;> (subst h2; unfold RunV; go_simp; try (intro h; omega))) (.inr hS) ?_
                simp only [Act.put, List.setIfInBounds_toArray, List.set_cons_zero, List.set_cons_succ]
                refine tc (i := 9) (v := .agg (idC r.id).toArray) rfl 8 (by kernel_rfl) (fun _ _ _ h => h) rfl (fun W0 hw => r_load (b := b1) (i := o1 + k * 83) rfl rfl (rng_fr (((HF98.out).drew).trans hw (fun _ _ h => h)) HID.out) Try.underlying31 rfl (by rw [sz31, idC_length])) hS ?_
                simp only [Act.put, List.setIfInBounds_toArray, List.set_cons_zero, List.set_cons_succ]
                refine two (i := 0) (j := 10) rfl rfl (by kernel_rfl) rfl rfl (wp_of_runV (r_buildSlice (vs := []) rfl rfl (buildSlice23_0 w7.drew)) ⟨fun _ => (Fr.refl Non w7.drew).alloc _, ?_⟩) (wp_of_runV (r_buildSlice (vs := [(0, .agg (idC r.id).toArray)]) rfl rfl (buildSlice23_one w7.drew r.id)) ⟨fun _ => (Fr.refl Non w7.drew).alloc _, ?_⟩)
                · simp only [Act.put, List.setIfInBounds_toArray, List.set_cons_zero, List.set_cons_succ]
                  have hFa : Fr Non w7.drew (w7.drew.alloc (.cells #[] 31)) := (Fr.refl Non w7.drew).alloc _
                  refine two (i := 4) (j := 10) rfl rfl (by kernel_rfl) rfl rfl ?_ ?_
                  · obtain ⟨bq5, cq5, wq5, rq5, oq5, hgb, hF5, hG5⟩ := app_many elem31 Try.underlying23 (by omega) (p1.length) (some ⟨gy, 0, none⟩) yc hFa (own_empty 31 32 idC w7.drew) (Nat.le_refl _) (hp1.non hFa) rfl (by simp) (by omega)
                    refine wp_of_runV (r_builtin (vs := [.slice (some ⟨w7.drew.heap.size, 0, none⟩) 0 0, .slice (some ⟨gy, 0, none⟩) p1.length yc]) rfl rfl (builtin_append rq5)) ⟨fun _ => hF5, ?_⟩
                    simp only [Act.put, List.setIfInBounds_toArray, List.set_cons_zero, List.set_cons_succ]
                    have hF5x : Fr Non w7.drew (wq5.alloc (.cells (idC r.id).toArray 31)) := hF5.alloc _
                    refine oc3 (i := 10) rfl (by kernel_rfl) rfl hF5x (r_buildSlice (vs := [(0, .agg (idC r.id).toArray)]) rfl rfl (buildSlice23_one wq5 r.id)) ?_
                    simp only [Act.put, List.setIfInBounds_toArray, List.set_cons_zero, List.set_cons_succ]
                    obtain ⟨b6, c6, w6, r6, o6, hb6, hF6⟩ := app_one elem31 Try.underlying23 (by omega) r.id (p1.length + 1) wq5.heap.size hF5x (oq5.fr ((Fr.refl Non wq5).alloc _) (fun _ _ h => h)) hgb (heap_alloc_new wq5 _) (by simp) rfl (by omega)
                    refine oc2 (i := 11) rfl (by kernel_rfl) rfl (by kernel_rfl) (r_builtin (vs := [.slice (some ⟨bq5, 0, none⟩) p1.length cq5, .slice (some ⟨wq5.heap.size, 0, none⟩) 1 1]) rfl rfl (builtin_append r6)) ?_
                    simp only [Act.put, List.setIfInBounds_toArray, List.set_cons_zero, List.set_cons_succ]
                    obtain ⟨b8, c8, w8, r8, o8, hb8, hF8, -⟩ := app_many elem31 Try.underlying23 (by omega) (p1.length + 1 + p2.length) (some ⟨gy, o2, none⟩) (yc - p1.length) hF6 o6 hb6 (hp2.non hF6) (by simp) rfl (by omega)
                    refine oc2 (i := 15) rfl (by kernel_rfl) rfl (by kernel_rfl) (r_builtin (vs := [.slice (some ⟨b6, 0, none⟩) (p1.length + 1) c6, .slice (some ⟨gy, o2, none⟩) p2.length (yc - p1.length)]) rfl rfl (builtin_append r8)) ?_
                    simp only [Act.put, List.setIfInBounds_toArray, List.set_cons_zero, List.set_cons_succ]
                    refine tp (i := 16) (v := .slice (some ⟨b8, 0, none⟩) (p1.length + 1 + p2.length) c8) rfl (by kernel_rfl) (fun _ _ _ h => h) rfl (fun W0 => r_assign rfl rfl) (.inl (by kernel_rfl)) ?_
                    simp only [Act.put, List.setIfInBounds_toArray, List.set_cons_zero, List.set_cons_succ]
                    refine dc (by kernel_rfl) ?_
                    have HO8 := Lib.hid (And.intro o8 (And.intro hb8 hF8))
                    clear r6 o6 hb6 hF6 r8 o8 hb8 hF8
                    go_wp2_with fail
                    go_roundw
                    case rel => exact ⟨k + 1, p1 ++ [r.id] ++ p2, by go_num, by have := HLT.out; omega, HO8.out.1, fun b hb => (by cases hb; exact Nat.le_trans (HFW.out.trans HF98.out (fun _ _ h => h)).size HO8.out.2.1), HSR.out, HPR.out, (HFW.out.trans HF98.out (fun _ _ h => h)).trans (((Fr.refl Non w7).drew).trans HO8.out.2.2 (fun _ _ h => h)) (fun _ _ h => h)⟩
                    case measure => have := HLT.out; simp [intOf] <;> omega
                  · refine wp_of_runV (r_buildSlice (vs := [(0, .agg (idC r.id).toArray)]) rfl rfl (buildSlice23_one (w7.drew.alloc (.cells #[] 31)) r.id)) ⟨fun _ => hFa.alloc _, ?_⟩
                    simp only [Act.put, List.setIfInBounds_toArray, List.set_cons_zero, List.set_cons_succ]
                    have hFb : Fr Non (w7.drew.alloc (.cells #[] 31)) ((w7.drew.alloc (.cells #[] 31)).alloc (.cells (idC r.id).toArray 31)) := (Fr.refl Non _).alloc _
                    have hFab := hFa.trans hFb (fun _ _ h => h)
                    have hxb := heap_alloc_new (w7.drew.alloc (.cells #[] 31)) (.cells (idC r.id).toArray 31)
                    obtain ⟨bq5, cq5, wq5, rq5, oq5, hgb, hF5, hG5⟩ := app_many elem31 Try.underlying23 (by omega) (p1.length) (some ⟨gy, 0, none⟩) yc hFab ((own_empty 31 32 idC w7.drew).fr hFb (fun _ _ h => h)) (Nat.le_refl _) (hp1.non hFab) rfl (by simp) (by omega)
                    refine oc3 (i := 4) rfl (by kernel_rfl) rfl hF5 (r_builtin (vs := [.slice (some ⟨w7.drew.heap.size, 0, none⟩) 0 0, .slice (some ⟨gy, 0, none⟩) p1.length yc]) rfl rfl (builtin_append rq5)) ?_
                    simp only [Act.put, List.setIfInBounds_toArray, List.set_cons_zero, List.set_cons_succ]
                    have hx5 := hG5.keep hxb (fun e => by have e' : (w7.drew.alloc (.cells #[] 31)).heap.size = w7.drew.heap.size := e; rw [World.size_alloc] at e'; omega)
                    obtain ⟨b6, c6, w6, r6, o6, hb6, hF6⟩ := app_one elem31 Try.underlying23 (by omega) r.id (p1.length + 1) (w7.drew.alloc (.cells #[] 31)).heap.size hF5 oq5 hgb hx5 (by simp) rfl (by omega)
                    refine oc2 (i := 11) rfl (by kernel_rfl) rfl (by kernel_rfl) (r_builtin (vs := [.slice (some ⟨bq5, 0, none⟩) p1.length cq5, .slice (some ⟨(w7.drew.alloc (.cells #[] 31)).heap.size, 0, none⟩) 1 1]) rfl rfl (builtin_append r6)) ?_
                    simp only [Act.put, List.setIfInBounds_toArray, List.set_cons_zero, List.set_cons_succ]
                    obtain ⟨b8, c8, w8, r8, o8, hb8, hF8, -⟩ := app_many elem31 Try.underlying23 (by omega) (p1.length + 1 + p2.length) (some ⟨gy, o2, none⟩) (yc - p1.length) hF6 o6 hb6 (hp2.non hF6) (by simp) rfl (by omega)
                    refine oc2 (i := 15) rfl (by kernel_rfl) rfl (by kernel_rfl) (r_builtin (vs := [.slice (some ⟨b6, 0, none⟩) (p1.length + 1) c6, .slice (some ⟨gy, o2, none⟩) p2.length (yc - p1.length)]) rfl rfl (builtin_append r8)) ?_
                    simp only [Act.put, List.setIfInBounds_toArray, List.set_cons_zero, List.set_cons_succ]
                    refine tp (i := 16) (v := .slice (some ⟨b8, 0, none⟩) (p1.length + 1 + p2.length) c8) rfl (by kernel_rfl) (fun _ _ _ h => h) rfl (fun W0 => r_assign rfl rfl) (.inl (by kernel_rfl)) ?_
                    simp only [Act.put, List.setIfInBounds_toArray, List.set_cons_zero, List.set_cons_succ]
                    refine dc (by kernel_rfl) ?_
                    have HO8 := Lib.hid (And.intro o8 (And.intro hb8 hF8))
                    clear r6 o6 hb6 hF6 r8 o8 hb8 hF8
                    go_wp2_with fail
                    go_roundw
                    case rel => exact ⟨k + 1, p1 ++ [r.id] ++ p2, by go_num, by have := HLT.out; omega, HO8.out.1, fun b hb => (by cases hb; exact Nat.le_trans (HFW.out.trans HF98.out (fun _ _ h => h)).size HO8.out.2.1), HSR.out, HPR.out, (HFW.out.trans HF98.out (fun _ _ h => h)).trans (((Fr.refl Non w7).drew).trans HO8.out.2.2 (fun _ _ h => h)) (fun _ _ h => h)⟩
                    case measure => have := HLT.out; simp [intOf] <;> omega
                · simp only [Act.put, List.setIfInBounds_toArray, List.set_cons_zero, List.set_cons_succ]
                  have hFb : Fr Non w7.drew (w7.drew.alloc (.cells (idC r.id).toArray 31)) := (Fr.refl Non w7.drew).alloc _
                  have hxb := heap_alloc_new w7.drew (.cells (idC r.id).toArray 31)
                  obtain ⟨wb, hwb⟩ : ∃ wb, w7.drew.alloc (.cells (idC r.id).toArray 31) = wb := ⟨_, rfl⟩
                  have hsb : wb.heap.size = w7.drew.heap.size + 1 := hwb ▸ World.size_alloc w7.drew _
                  rw [hwb] at hFb hxb ⊢
                  have hFc : Fr Non w7.drew (wb.alloc (.cells #[] 31)) := hFb.alloc _
                  refine oc3 (i := 0) rfl (by kernel_rfl) rfl hFc (r_buildSlice (vs := []) rfl rfl (buildSlice23_0 wb)) ?_
                  simp only [Act.put, List.setIfInBounds_toArray, List.set_cons_zero, List.set_cons_succ]
                  obtain ⟨bq5, cq5, wq5, rq5, oq5, hgb, hF5, hG5⟩ := app_many elem31 Try.underlying23 (by omega) (p1.length) (some ⟨gy, 0, none⟩) yc hFc (own_empty 31 32 idC wb) (by omega) (hp1.non hFc) rfl (by simp) (by omega)
                  refine oc3 (i := 4) rfl (by kernel_rfl) rfl hF5 (r_builtin (vs := [.slice (some ⟨wb.heap.size, 0, none⟩) 0 0, .slice (some ⟨gy, 0, none⟩) p1.length yc]) rfl rfl (builtin_append rq5)) ?_
                  simp only [Act.put, List.setIfInBounds_toArray, List.set_cons_zero, List.set_cons_succ]
                  have hx5 := hG5.keep (((Fr.refl Non wb).alloc (.cells #[] 31)).keep hxb (fun h => h)) (fun e => by have e' : w7.drew.heap.size = wb.heap.size := e; omega)
                  obtain ⟨b6, c6, w6, r6, o6, hb6, hF6⟩ := app_one elem31 Try.underlying23 (by omega) r.id (p1.length + 1) w7.drew.heap.size hF5 oq5 hgb hx5 (by simp) rfl (by omega)
                  refine oc2 (i := 11) rfl (by kernel_rfl) rfl (by kernel_rfl) (r_builtin (vs := [.slice (some ⟨bq5, 0, none⟩) p1.length cq5, .slice (some ⟨w7.drew.heap.size, 0, none⟩) 1 1]) rfl rfl (builtin_append r6)) ?_
                  simp only [Act.put, List.setIfInBounds_toArray, List.set_cons_zero, List.set_cons_succ]
                  obtain ⟨b8, c8, w8, r8, o8, hb8, hF8, -⟩ := app_many elem31 Try.underlying23 (by omega) (p1.length + 1 + p2.length) (some ⟨gy, o2, none⟩) (yc - p1.length) hF6 o6 hb6 (hp2.non hF6) (by simp) rfl (by omega)
                  refine oc2 (i := 15) rfl (by kernel_rfl) rfl (by kernel_rfl) (r_builtin (vs := [.slice (some ⟨b6, 0, none⟩) (p1.length + 1) c6, .slice (some ⟨gy, o2, none⟩) p2.length (yc - p1.length)]) rfl rfl (builtin_append r8)) ?_
                  simp only [Act.put, List.setIfInBounds_toArray, List.set_cons_zero, List.set_cons_succ]
                  refine tp (i := 16) (v := .slice (some ⟨b8, 0, none⟩) (p1.length + 1 + p2.length) c8) rfl (by kernel_rfl) (fun _ _ _ h => h) rfl (fun W0 => r_assign rfl rfl) (.inl (by kernel_rfl)) ?_
                  simp only [Act.put, List.setIfInBounds_toArray, List.set_cons_zero, List.set_cons_succ]
                  refine dc (by kernel_rfl) ?_
                  have HO8 := Lib.hid (And.intro o8 (And.intro hb8 hF8))
                  clear r6 o6 hb6 hF6 r8 o8 hb8 hF8
                  go_wp2_with fail
                  go_roundw
                  case rel => exact ⟨k + 1, p1 ++ [r.id] ++ p2, by go_num, by have := HLT.out; omega, HO8.out.1, fun b hb => (by cases hb; exact Nat.le_trans (HFW.out.trans HF98.out (fun _ _ h => h)).size HO8.out.2.1), HSR.out, HPR.out, (HFW.out.trans HF98.out (fun _ _ h => h)).trans (((Fr.refl Non w7).drew).trans HO8.out.2.2 (fun _ _ h => h)) (fun _ _ h => h)⟩
                  case measure => have := HLT.out; simp [intOf] <;> omega
            · have hge : (out.length : Int) ≤ (j : Int) := by omega
              have HSTOP := Lib.hid (show ∀ z, out[j]? = some z → ltOf cmpId z r.id = false from fun z hz => by have := (List.getElem?_eq_some_iff.1 hz).1; omega)
              go_wp2_with fail
              refine rc (fun _ : World => True) 15 (by kernel_rfl) ?_
              have hS : (fun _ : World => True) wr.drew := trivial
              refine tp (i := 0) (v := .int .i64 (j : Int)) rfl (by kernel_rfl) (fun _ _ _ h => h) rfl (fun W0 => r_move rfl rfl) (.inr hS) ?_
              simp only [Act.put, List.setIfInBounds_toArray, List.set_cons_zero, List.set_cons_succ]
              refine tp (i := 1) (v := .slice (some ⟨gy, 0, none⟩) out.length yc) rfl (by kernel_rfl) (fun _ _ _ h => h) rfl (fun W0 => r_move rfl rfl) (.inr hS) ?_
              simp only [Act.put, List.setIfInBounds_toArray, List.set_cons_zero, List.set_cons_succ]
              refine tp (i := 2) (v := .int .i64 (out.length : Int)) rfl (by kernel_rfl) (fun _ _ _ h => h) rfl (fun W0 => by unfold RunV; go_simp) (.inr hS) ?_
              simp only [Act.put, List.setIfInBounds_toArray, List.set_cons_zero, List.set_cons_succ]
              refine tp (i := 3) (v := .bool false) rfl (by kernel_rfl) (fun _ _ _ h => h) rfl (fun W0 => by unfold RunV; go_simp) (.inr hS) ?_
              simp only [Act.put, List.setIfInBounds_toArray, List.set_cons_zero, List.set_cons_succ]
              refine tp (i := 4) (v := .bool false) rfl (by kernel_rfl) (fun _ _ _ h => h) rfl (fun W0 => r_move rfl rfl) (.inr hS) ?_
              simp only [Act.put, List.setIfInBounds_toArray, List.set_cons_zero, List.set_cons_succ]
              refine tpn (i := 5) rfl (by kernel_rfl) (fun _ _ _ h => h) rfl (.inr hS) ?_
              simp only [Act.put, List.setIfInBounds_toArray, List.set_cons_zero, List.set_cons_succ]
              refine tpn (i := 6) rfl (by kernel_rfl) (fun _ _ _ h => h) rfl (.inr hS) ?_
              simp only [Act.put, List.setIfInBounds_toArray, List.set_cons_zero, List.set_cons_succ]
              refine tpn (i := 7) rfl (by kernel_rfl) (fun _ _ _ h => h) rfl (.inr hS) ?_
              simp only [Act.put, List.setIfInBounds_toArray, List.set_cons_zero, List.set_cons_succ]
              refine tpn (i := 9) rfl (by kernel_rfl) (fun _ _ _ h => h) rfl (.inr hS) ?_
              simp only [Act.put, List.setIfInBounds_toArray, List.set_cons_zero, List.set_cons_succ]
              refine tpn (i := 10) rfl (by kernel_rfl) (fun _ _ _ h => h) rfl (.inr hS) ?_
              simp only [Act.put, List.setIfInBounds_toArray, List.set_cons_zero, List.set_cons_succ]
              refine tpn (i := 11) rfl (by kernel_rfl) (fun _ _ _ h => h) rfl (.inr hS) ?_
              simp only [Act.put, List.setIfInBounds_toArray, List.set_cons_zero, List.set_cons_succ]
              refine tpn (i := 12) rfl (by kernel_rfl) (fun _ _ _ h => h) rfl (.inr hS) ?_
              simp only [Act.put, List.setIfInBounds_toArray, List.set_cons_zero, List.set_cons_succ]
              refine tpn (i := 8) rfl (by kernel_rfl) (fun _ _ _ h => h) rfl (.inr hS) ?_
              simp only [Act.put, List.setIfInBounds_toArray, List.set_cons_zero, List.set_cons_succ]
              refine tpn (i := 13) rfl (by kernel_rfl) (fun _ _ _ h => h) rfl (.inr hS) ?_
              simp only [Act.put, List.setIfInBounds_toArray, List.set_cons_zero, List.set_cons_succ]
              refine tpn (i := 14) rfl (by kernel_rfl) (fun _ _ _ h => h) rfl (.inr hS) ?_
              simp only [Act.put, List.setIfInBounds_toArray, List.set_cons_zero, List.set_cons_succ]
              refine oc2 (i := 15) (v := .bool false) rfl (by kernel_rfl) rfl (by kernel_rfl) (r_pick (b := false) rfl rfl rfl) ?_
              simp only [Act.put, List.setIfInBounds_toArray, List.set_cons_zero, List.set_cons_succ]
              refine dc (by kernel_rfl) ?_
              obtain ⟨w9, hw9⟩ : ∃ w9, wr.drew = w9 := ⟨_, rfl⟩
              have HF99 : Hid (Fr Non wo w9) := by rw [← hw9]; exact HF9.out.drew
              rw [hw9]
              clear hw9
              go_wp2_with fail
              obtain ⟨p1, hp1⟩ : ∃ p1, p1 = out.take j := ⟨_, rfl⟩
              obtain ⟨p2, hp2⟩ : ∃ p2, p2 = out.drop j := ⟨_, rfl⟩
              have hj1 : j = p1.length := by rw [hp1, List.length_take]; omega
              have hol : out.length = p1.length + p2.length := by rw [hp1, hp2, List.length_take, List.length_drop]; omega
              have hpr := (ins_perm out r.id j).trans (HPM.out.append_right [r.id])
              have hsr := srtd_ins (i := j) HSO.out HALL.out HSTOP.out
              rw [← hp1, ← hp2] at hpr hsr
              have HSR : Hid (Srtd (p1 ++ [r.id] ++ p2)) := Lib.hid (by rw [List.append_assoc]; exact hsr)
              have HPR := Lib.hid (show (p1 ++ [r.id] ++ p2).Perm (((l.take (k + 1)).filter p).map (fun y : Row => y.id)) from by rw [e1.out, List.append_assoc]; exact hpr)
              have ha1 := (AtL.own elem31 HY.out).take j
              have ha2 := (AtL.own elem31 HY.out).drop j
              rw [← hp1] at ha1
              rw [← hp2, hj1, Nat.zero_add] at ha2
              have HP1 := Lib.hid ha1
              obtain ⟨o2, ho2⟩ : ∃ o2 : Nat, (yc = p1.length ∧ o2 = 0) ∨ (yc ≠ p1.length ∧ o2 = p1.length * 32) := by
                by_cases hz : yc = p1.length
                · exact ⟨0, .inl ⟨hz, rfl⟩⟩
                · exact ⟨_, .inr ⟨hz, rfl⟩⟩
              have hp2a : AtL wo (some ⟨gy, o2, none⟩) 32 idC p2 := by
                rcases ho2 with ⟨h1, _⟩ | ⟨_, h1⟩
                · exact .inl (List.eq_nil_of_length_eq_zero (by omega))
                · rw [h1]; exact ha2
              have HP2 := Lib.hid hp2a
              have HO2 := Lib.hid ho2
              clear hp2a ho2
              have hle : (p1.length : Int) + p2.length ≤ 30 := by have := HOL.out; omega
              have hyc2 : p1.length + p2.length ≤ yc := by omega
              have hy3 : p1.length ≤ yc := by omega
              have hy4 : (p1.length : Int) ≤ (p1.length : Int) + (p2.length : Int) := by omega
              have HOL2 := Lib.hid (show p1.length + p2.length ≤ 30 from by have := HOL.out; omega)
              clear hpr hsr ha1 ha2 hp1 hp2
              rw [hj1, hol]
              clear hj1 hol
              have hp1 : AtL w9.drew (some ⟨gy, 0, none⟩) 32 idC p1 := HP1.out.non ((HF99.out).drew)
              have hp2 : AtL w9.drew (some ⟨gy, o2, none⟩) 32 idC p2 := HP2.out.non ((HF99.out).drew)
              refine rc (fun W : World => Fr Non w9.drew W) 11 (by kernel_rfl) ?_
              have hS : (fun W : World => Fr Non w9.drew W) w9.drew := Fr.refl _ _
              refine tp (i := 1) (v := .slice (some ⟨gy, 0, none⟩) (p1.length + p2.length) yc) rfl (by kernel_rfl) (fun _ _ _ h => h) rfl (fun W0 => r_move rfl rfl) (.inr hS) ?_
              simp only [Act.put, List.setIfInBounds_toArray, List.set_cons_zero, List.set_cons_succ]
              refine tp (i := 2) (v := .int .i64 (p1.length : Int)) rfl (by kernel_rfl) (fun _ _ _ h => h) rfl (fun W0 => r_move rfl rfl) (.inr hS) ?_
              simp only [Act.put, List.setIfInBounds_toArray, List.set_cons_zero, List.set_cons_succ]
              refine tp (i := 3) (v := .slice (some ⟨gy, 0, none⟩) p1.length yc) rfl (by kernel_rfl) (fun _ _ _ h => h) rfl (fun W0 => by unfold RunV; go_simp) (.inr hS) ?_
              simp only [Act.put, List.setIfInBounds_toArray, List.set_cons_zero, List.set_cons_succ]
              refine tp (i := 5) (v := .slice (some ⟨b1, o1, none⟩) l.length cap) rfl (by kernel_rfl) (fun _ _ _ h => h) rfl (fun W0 => r_move rfl rfl) (.inr hS) ?_
              simp only [Act.put, List.setIfInBounds_toArray, List.set_cons_zero, List.set_cons_succ]
              refine tp (i := 6) (v := .int .i64 (k : Int)) rfl (by kernel_rfl) (fun _ _ _ h => h) rfl (fun W0 => r_move rfl rfl) (.inr hS) ?_
              simp only [Act.put, List.setIfInBounds_toArray, List.set_cons_zero, List.set_cons_succ]
              refine tp (i := 7) (v := .pointer (some ⟨b1, o1 + k * 83, none⟩)) rfl (by kernel_rfl) (fun _ _ _ h => h) rfl (fun W0 => by unfold RunV; go_simp) (.inr hS) ?_
              simp only [Act.put, List.setIfInBounds_toArray, List.set_cons_zero, List.set_cons_succ]
              refine tp (i := 8) (v := .pointer (some ⟨b1, o1 + k * 83, none⟩)) rfl (by kernel_rfl) (fun _ _ _ h => h) rfl (fun W0 => by unfold RunV; go_simp) (.inr hS) ?_
              simp only [Act.put, List.setIfInBounds_toArray, List.set_cons_zero, List.set_cons_succ]
              refine tp (i := 12) (v := .slice (some ⟨gy, 0, none⟩) (p1.length + p2.length) yc) rfl (by kernel_rfl) (fun _ _ _ h => h) rfl (fun W0 => r_move rfl rfl) (.inr hS) ?_
              simp only [Act.put, List.setIfInBounds_toArray, List.set_cons_zero, List.set_cons_succ]
              refine tp (i := 13) (v := .int .i64 (p1.length : Int)) rfl (by kernel_rfl) (fun _ _ _ h => h) rfl (fun W0 => r_move rfl rfl) (.inr hS) ?_
              simp only [Act.put, List.setIfInBounds_toArray, List.set_cons_zero, List.set_cons_succ]
              refine tp (i := 14) (v := .slice (some ⟨gy, o2, none⟩) p2.length (yc - p1.length)) rfl (by kernel_rfl) (fun _ _ _ h => h) rfl (fun W0 => by rcases HO2.out with ⟨h1, h2⟩ | ⟨h1, h2⟩ <;> (subst h2; unfold RunV; go_simp; try (intro h; omega))) (.inr hS) ?_
              simp only [Act.put, List.setIfInBounds_toArray, List.set_cons_zero, List.set_cons_succ]
              refine tc (i := 9) (v := .agg (idC r.id).toArray) rfl 8 (by kernel_rfl) (fun _ _ _ h => h) rfl (fun W0 hw => r_load (b := b1) (i := o1 + k * 83) rfl rfl (rng_fr (((HF99.out).drew).trans hw (fun _ _ h => h)) HID.out) Try.underlying31 rfl (by rw [sz31, idC_length])) hS ?_
              simp only [Act.put, List.setIfInBounds_toArray, List.set_cons_zero, List.set_cons_succ]
              refine two (i := 0) (j := 10) rfl rfl (by kernel_rfl) rfl rfl (wp_of_runV (r_buildSlice (vs := []) rfl rfl (buildSlice23_0 w9.drew)) ⟨fun _ => (Fr.refl Non w9.drew).alloc _, ?_⟩) (wp_of_runV (r_buildSlice (vs := [(0, .agg (idC r.id).toArray)]) rfl rfl (buildSlice23_one w9.drew r.id)) ⟨fun _ => (Fr.refl Non w9.drew).alloc _, ?_⟩)
              · simp only [Act.put, List.setIfInBounds_toArray, List.set_cons_zero, List.set_cons_succ]
                have hFa : Fr Non w9.drew (w9.drew.alloc (.cells #[] 31)) := (Fr.refl Non w9.drew).alloc _
                refine two (i := 4) (j := 10) rfl rfl (by kernel_rfl) rfl rfl ?_ ?_
                · obtain ⟨bq5, cq5, wq5, rq5, oq5, hgb, hF5, hG5⟩ := app_many elem31 Try.underlying23 (by omega) (p1.length) (some ⟨gy, 0, none⟩) yc hFa (own_empty 31 32 idC w9.drew) (Nat.le_refl _) (hp1.non hFa) rfl (by simp) (by omega)
                  refine wp_of_runV (r_builtin (vs := [.slice (some ⟨w9.drew.heap.size, 0, none⟩) 0 0, .slice (some ⟨gy, 0, none⟩) p1.length yc]) rfl rfl (builtin_append rq5)) ⟨fun _ => hF5, ?_⟩
                  simp only [Act.put, List.setIfInBounds_toArray, List.set_cons_zero, List.set_cons_succ]
                  have hF5x : Fr Non w9.drew (wq5.alloc (.cells (idC r.id).toArray 31)) := hF5.alloc _
                  refine oc3 (i := 10) rfl (by kernel_rfl) rfl hF5x (r_buildSlice (vs := [(0, .agg (idC r.id).toArray)]) rfl rfl (buildSlice23_one wq5 r.id)) ?_
                  simp only [Act.put, List.setIfInBounds_toArray, List.set_cons_zero, List.set_cons_succ]
                  obtain ⟨b6, c6, w6, r6, o6, hb6, hF6⟩ := app_one elem31 Try.underlying23 (by omega) r.id (p1.length + 1) wq5.heap.size hF5x (oq5.fr ((Fr.refl Non wq5).alloc _) (fun _ _ h => h)) hgb (heap_alloc_new wq5 _) (by simp) rfl (by omega)
                  refine oc2 (i := 11) rfl (by kernel_rfl) rfl (by kernel_rfl) (r_builtin (vs := [.slice (some ⟨bq5, 0, none⟩) p1.length cq5, .slice (some ⟨wq5.heap.size, 0, none⟩) 1 1]) rfl rfl (builtin_append r6)) ?_
                  simp only [Act.put, List.setIfInBounds_toArray, List.set_cons_zero, List.set_cons_succ]
                  obtain ⟨b8, c8, w8, r8, o8, hb8, hF8, -⟩ := app_many elem31 Try.underlying23 (by omega) (p1.length + 1 + p2.length) (some ⟨gy, o2, none⟩) (yc - p1.length) hF6 o6 hb6 (hp2.non hF6) (by simp) rfl (by omega)
                  refine oc2 (i := 15) rfl (by kernel_rfl) rfl (by kernel_rfl) (r_builtin (vs := [.slice (some ⟨b6, 0, none⟩) (p1.length + 1) c6, .slice (some ⟨gy, o2, none⟩) p2.length (yc - p1.length)]) rfl rfl (builtin_append r8)) ?_
                  simp only [Act.put, List.setIfInBounds_toArray, List.set_cons_zero, List.set_cons_succ]
                  refine tp (i := 16) (v := .slice (some ⟨b8, 0, none⟩) (p1.length + 1 + p2.length) c8) rfl (by kernel_rfl) (fun _ _ _ h => h) rfl (fun W0 => r_assign rfl rfl) (.inl (by kernel_rfl)) ?_
                  simp only [Act.put, List.setIfInBounds_toArray, List.set_cons_zero, List.set_cons_succ]
                  refine dc (by kernel_rfl) ?_
                  have HO8 := Lib.hid (And.intro o8 (And.intro hb8 hF8))
                  clear r6 o6 hb6 hF6 r8 o8 hb8 hF8
                  go_wp2_with fail
                  go_roundw
                  case rel => exact ⟨k + 1, p1 ++ [r.id] ++ p2, by go_num, by have := HLT.out; omega, HO8.out.1, fun b hb => (by cases hb; exact Nat.le_trans (HFW.out.trans HF99.out (fun _ _ h => h)).size HO8.out.2.1), HSR.out, HPR.out, (HFW.out.trans HF99.out (fun _ _ h => h)).trans (((Fr.refl Non w9).drew).trans HO8.out.2.2 (fun _ _ h => h)) (fun _ _ h => h)⟩
                  case measure => have := HLT.out; simp [intOf] <;> omega
                · refine wp_of_runV (r_buildSlice (vs := [(0, .agg (idC r.id).toArray)]) rfl rfl (buildSlice23_one (w9.drew.alloc (.cells #[] 31)) r.id)) ⟨fun _ => hFa.alloc _, ?_⟩
                  simp only [Act.put, List.setIfInBounds_toArray, List.set_cons_zero, List.set_cons_succ]
                  have hFb : Fr Non (w9.drew.alloc (.cells #[] 31)) ((w9.drew.alloc (.cells #[] 31)).alloc (.cells (idC r.id).toArray 31)) := (Fr.refl Non _).alloc _
                  have hFab := hFa.trans hFb (fun _ _ h => h)
                  have hxb := heap_alloc_new (w9.drew.alloc (.cells #[] 31)) (.cells (idC r.id).toArray 31)
                  obtain ⟨bq5, cq5, wq5, rq5, oq5, hgb, hF5, hG5⟩ := app_many elem31 Try.underlying23 (by omega) (p1.length) (some ⟨gy, 0, none⟩) yc hFab ((own_empty 31 32 idC w9.drew).fr hFb (fun _ _ h => h)) (Nat.le_refl _) (hp1.non hFab) rfl (by simp) (by omega)
                  refine oc3 (i := 4) rfl (by kernel_rfl) rfl hF5 (r_builtin (vs := [.slice (some ⟨w9.drew.heap.size, 0, none⟩) 0 0, .slice (some ⟨gy, 0, none⟩) p1.length yc]) rfl rfl (builtin_append rq5)) ?_
                  simp only [Act.put, List.setIfInBounds_toArray, List.set_cons_zero, List.set_cons_succ]
                  have hx5 := hG5.keep hxb (fun e => by have e' : (w9.drew.alloc (.cells #[] 31)).heap.size = w9.drew.heap.size := e; rw [World.size_alloc] at e'; omega)
                  obtain ⟨b6, c6, w6, r6, o6, hb6, hF6⟩ := app_one elem31 Try.underlying23 (by omega) r.id (p1.length + 1) (w9.drew.alloc (.cells #[] 31)).heap.size hF5 oq5 hgb hx5 (by simp) rfl (by omega)
                  refine oc2 (i := 11) rfl (by kernel_rfl) rfl (by kernel_rfl) (r_builtin (vs := [.slice (some ⟨bq5, 0, none⟩) p1.length cq5, .slice (some ⟨(w9.drew.alloc (.cells #[] 31)).heap.size, 0, none⟩) 1 1]) rfl rfl (builtin_append r6)) ?_
                  simp only [Act.put, List.setIfInBounds_toArray, List.set_cons_zero, List.set_cons_succ]
                  obtain ⟨b8, c8, w8, r8, o8, hb8, hF8, -⟩ := app_many elem31 Try.underlying23 (by omega) (p1.length + 1 + p2.length) (some ⟨gy, o2, none⟩) (yc - p1.length) hF6 o6 hb6 (hp2.non hF6) (by simp) rfl (by omega)
                  refine oc2 (i := 15) rfl (by kernel_rfl) rfl (by kernel_rfl) (r_builtin (vs := [.slice (some ⟨b6, 0, none⟩) (p1.length + 1) c6, .slice (some ⟨gy, o2, none⟩) p2.length (yc - p1.length)]) rfl rfl (builtin_append r8)) ?_
                  simp only [Act.put, List.setIfInBounds_toArray, List.set_cons_zero, List.set_cons_succ]
                  refine tp (i := 16) (v := .slice (some ⟨b8, 0, none⟩) (p1.length + 1 + p2.length) c8) rfl (by kernel_rfl) (fun _ _ _ h => h) rfl (fun W0 => r_assign rfl rfl) (.inl (by kernel_rfl)) ?_
                  simp only [Act.put, List.setIfInBounds_toArray, List.set_cons_zero, List.set_cons_succ]
                  refine dc (by kernel_rfl) ?_
                  have HO8 := Lib.hid (And.intro o8 (And.intro hb8 hF8))
                  clear r6 o6 hb6 hF6 r8 o8 hb8 hF8
                  go_wp2_with fail
                  go_roundw
                  case rel => exact ⟨k + 1, p1 ++ [r.id] ++ p2, by go_num, by have := HLT.out; omega, HO8.out.1, fun b hb => (by cases hb; exact Nat.le_trans (HFW.out.trans HF99.out (fun _ _ h => h)).size HO8.out.2.1), HSR.out, HPR.out, (HFW.out.trans HF99.out (fun _ _ h => h)).trans (((Fr.refl Non w9).drew).trans HO8.out.2.2 (fun _ _ h => h)) (fun _ _ h => h)⟩
                  case measure => have := HLT.out; simp [intOf] <;> omega
              · simp only [Act.put, List.setIfInBounds_toArray, List.set_cons_zero, List.set_cons_succ]
                have hFb : Fr Non w9.drew (w9.drew.alloc (.cells (idC r.id).toArray 31)) := (Fr.refl Non w9.drew).alloc _
                have hxb := heap_alloc_new w9.drew (.cells (idC r.id).toArray 31)
                obtain ⟨wb, hwb⟩ : ∃ wb, w9.drew.alloc (.cells (idC r.id).toArray 31) = wb := ⟨_, rfl⟩
                have hsb : wb.heap.size = w9.drew.heap.size + 1 := hwb ▸ World.size_alloc w9.drew _
                rw [hwb] at hFb hxb ⊢
                have hFc : Fr Non w9.drew (wb.alloc (.cells #[] 31)) := hFb.alloc _
                refine oc3 (i := 0) rfl (by kernel_rfl) rfl hFc (r_buildSlice (vs := []) rfl rfl (buildSlice23_0 wb)) ?_
                simp only [Act.put, List.setIfInBounds_toArray, List.set_cons_zero, List.set_cons_succ]
                obtain ⟨bq5, cq5, wq5, rq5, oq5, hgb, hF5, hG5⟩ := app_many elem31 Try.underlying23 (by omega) (p1.length) (some ⟨gy, 0, none⟩) yc hFc (own_empty 31 32 idC wb) (by omega) (hp1.non hFc) rfl (by simp) (by omega)
                refine oc3 (i := 4) rfl (by kernel_rfl) rfl hF5 (r_builtin (vs := [.slice (some ⟨wb.heap.size, 0, none⟩) 0 0, .slice (some ⟨gy, 0, none⟩) p1.length yc]) rfl rfl (builtin_append rq5)) ?_
                simp only [Act.put, List.setIfInBounds_toArray, List.set_cons_zero, List.set_cons_succ]
                have hx5 := hG5.keep (((Fr.refl Non wb).alloc (.cells #[] 31)).keep hxb (fun h => h)) (fun e => by have e' : w9.drew.heap.size = wb.heap.size := e; omega)
                obtain ⟨b6, c6, w6, r6, o6, hb6, hF6⟩ := app_one elem31 Try.underlying23 (by omega) r.id (p1.length + 1) w9.drew.heap.size hF5 oq5 hgb hx5 (by simp) rfl (by omega)
                refine oc2 (i := 11) rfl (by kernel_rfl) rfl (by kernel_rfl) (r_builtin (vs := [.slice (some ⟨bq5, 0, none⟩) p1.length cq5, .slice (some ⟨w9.drew.heap.size, 0, none⟩) 1 1]) rfl rfl (builtin_append r6)) ?_
                simp only [Act.put, List.setIfInBounds_toArray, List.set_cons_zero, List.set_cons_succ]
                obtain ⟨b8, c8, w8, r8, o8, hb8, hF8, -⟩ := app_many elem31 Try.underlying23 (by omega) (p1.length + 1 + p2.length) (some ⟨gy, o2, none⟩) (yc - p1.length) hF6 o6 hb6 (hp2.non hF6) (by simp) rfl (by omega)
                refine oc2 (i := 15) rfl (by kernel_rfl) rfl (by kernel_rfl) (r_builtin (vs := [.slice (some ⟨b6, 0, none⟩) (p1.length + 1) c6, .slice (some ⟨gy, o2, none⟩) p2.length (yc - p1.length)]) rfl rfl (builtin_append r8)) ?_
                simp only [Act.put, List.setIfInBounds_toArray, List.set_cons_zero, List.set_cons_succ]
                refine tp (i := 16) (v := .slice (some ⟨b8, 0, none⟩) (p1.length + 1 + p2.length) c8) rfl (by kernel_rfl) (fun _ _ _ h => h) rfl (fun W0 => r_assign rfl rfl) (.inl (by kernel_rfl)) ?_
                simp only [Act.put, List.setIfInBounds_toArray, List.set_cons_zero, List.set_cons_succ]
                refine dc (by kernel_rfl) ?_
                have HO8 := Lib.hid (And.intro o8 (And.intro hb8 hF8))
                clear r6 o6 hb6 hF6 r8 o8 hb8 hF8
                go_wp2_with fail
                go_roundw
                case rel => exact ⟨k + 1, p1 ++ [r.id] ++ p2, by go_num, by have := HLT.out; omega, HO8.out.1, fun b hb => (by cases hb; exact Nat.le_trans (HFW.out.trans HF99.out (fun _ _ h => h)).size HO8.out.2.1), HSR.out, HPR.out, (HFW.out.trans HF99.out (fun _ _ h => h)).trans (((Fr.refl Non w9).drew).trans HO8.out.2.2 (fun _ _ h => h)) (fun _ _ h => h)⟩
                case measure => have := HLT.out; simp [intOf] <;> omega
    · obtain rfl : k = l.length := by omega
      rw [List.take_length] at HPM
      go_wp2_with fail
      go_ret
      obtain ⟨ya, yc, rfl, -, -, -⟩ := Own.shape HY.out
      have hlen : out.length = (l.filter p).length := by have := HPM.out.length_eq; rwa [List.length_map] at this
      exact ⟨ya, yc, by rw [← hlen]; rfl, by rw [← srtd_srt HSO.out HPM.out]; exact AtL.own elem31 HY.out, HFW.out⟩
end Go.Proofs.Ytfemaeacmnhdlaa
