import Derived.Test.YticgkbpmaakkiaaDkD
namespace Go.Proofs.Yticgkbpmaakkiaa
open Go.RowKit

theorem PendAt.snoc {w : World} {e : TypeId} {B : Nat} {v v' : Value} {l : List (Int × Sec)} {x : Int × Sec} {w2 : World} {g cap : Nat} {ys : List (Int × Raw)} (he : e ≠ 5)
    (h1 : Own w e 2 encW v ys) (h2 : ys.length = l.length) (h3 : ∀ b, v.ownBlock = some b → B ≤ b) (h4 : ∀ (i : Nat) (y : Int × Raw) (x : Int × Sec), ys[i]? = some y → l[i]? = some x → y.1 = x.1 ∧ OwnB w (rawV y.2) x.2.1 ∧ ∃ g cap, y.2 = (some ⟨g, 0, none⟩, 256, cap) ∧ B ≤ g)
    (hx : OwnB w (.slice (some ⟨g, 0, none⟩) 256 cap) x.2.1) (hg : B ≤ g)
    (hB : B ≤ w.heap.size) (hv : Own w2 e 2 encW v' (ys ++ [(x.1, (some ⟨g, 0, none⟩, 256, cap))])) (hgr : w.grownBy w2 v.ownBlock) (hb : ∀ b, v'.ownBlock = some b → v.ownBlock = some b ∨ w.heap.size ≤ b) :
    PendAt w2 e B v' (l ++ [x]) := by
  have hF : Fr (fun k => v.ownBlock = some k) w w2 := (Fr.refl _ w).grown hgr (fun k hk _ => hk)
  refine ⟨_, hv, by simp [h2], fun b hb' => ?_, fun i y z hy hz => ?_⟩
  · rcases hb b hb' with h | h
    · exact h3 b h
    · omega
  · by_cases hi : i < l.length
    · rw [List.getElem?_append_left hi] at hz
      rw [List.getElem?_append_left (by omega)] at hy
      obtain ⟨e1, e2, g', c', e3, e4⟩ := h4 i y z hy hz
      exact ⟨e1, Own.fr hF e2 (fun b hb => Own.apart e2 h1 (Ne.symm he) hb), g', c', e3, e4⟩
    · obtain rfl : i = l.length := by
        have := (List.getElem?_eq_some_iff.1 hz).1
        simp at this; omega
      rw [List.getElem?_append_right (by omega)] at hz
      rw [List.getElem?_append_right (by omega)] at hy
      simp only [Nat.sub_self, h2, List.getElem?_cons_zero, Option.some.injEq] at hy hz
      subst hy hz
      exact ⟨rfl, Own.fr hF hx (fun b hb => Own.apart hx h1 (Ne.symm he) hb), g, cap, rfl, hg⟩

set_option maxRecDepth 100000 in
theorem Pending_nil (w : World) : Calls Try.prog 16 #[.pointer none] w fun e w' => e = .returned (.slice none 0 0) ∧ w = w' := by
  go_enter Try.func16, Try.ntmps16
  go_wp2
  go_ret
  exact ⟨rfl, rfl⟩

set_option maxRecDepth 100000 in
theorem Pending_ok (w : World) (p m : Nat) (pv : Value) (D : Dsk) (h : DiskAt w p m pv D) (hl : D.pend.length ≤ 100000) :
    Calls Try.prog 16 #[.pointer (some ⟨p, 0, none⟩)] w fun e w' => ∃ v, e = .returned v ∧ PendAt w' 50 w.heap.size v D.pend ∧ Fr Non w w' := by
  obtain ⟨c0, c1, c2, c3, c4, c5, c6⟩ := h.cell
  have HH := Lib.hid h
  clear h c0 c1 c3 c4 c5 c6
  obtain ⟨a, cap, rfl, hcap, hnil, hag⟩ := Own.shape (show Own w 82 257 wcells pv D.pend from HH.out.hv)
  go_enter Try.func16, Try.ntmps16
  go_wp2
  go_loopw [3, 14] (fun v i wr => ∃ k : Nat, k ≤ D.pend.length ∧ i = .int .i64 k ∧ PendAt wr 50 w.heap.size v (D.pend.take k) ∧ Fr Non w wr) (fun _ i _ => D.pend.length - (intOf i).toNat)
  case atStart => exact ⟨0, by omega, rfl, PendAt.nil _ _ _, Fr.refl _ _⟩
  case round =>
    obtain ⟨k, hk, rfl, hP, hF⟩ := hrel
    have HP := Lib.hid hP
    have HF := Lib.hid hF
    clear hP hF
    by_cases hlt : k < D.pend.length
    · obtain ⟨x, hx⟩ : ∃ x, D.pend[k]? = some x := ⟨_, List.getElem?_eq_getElem hlt⟩
      have HX := Lib.hid hx
      clear hx
      cases a with
      | none => have := hnil rfl; rw [this] at hlt; simp at hlt
      | some ad =>
        obtain ⟨g, rfl⟩ := hag ad rfl
        have hown : Own wr 82 257 wcells (.slice (some ⟨g, 0, none⟩) D.pend.length cap) D.pend := (HH.out.fr HF.out (fun _ _ h => h)).hv
        have hr := Lib.hid (Own.elem elem82 hown HX.out)
        clear hown
        have hWh : (wr.alloc (.cells (wcells x).toArray 82)).heap[wr.heap.size]? = some (.cells (wcells x).toArray 82) := heap_alloc_new wr _
        have hc0 : (wr.alloc (.cells (wcells x).toArray 82)).cell? ⟨wr.heap.size, 0, none⟩ = some (.int .i64 x.1) := cellOf hWh 0 (by simp [wcells])
        have hc1 : (wr.alloc (.cells (wcells x).toArray 82)).rangeAt wr.heap.size 1 (u8s x.2.1) := rangeAt_of hWh 1 _ (fun j v hv => by simpa [wcells, Nat.add_comm 1 j] using hv)
        have HC0 := Lib.hid hc0
        have HC1 := Lib.hid hc1
        have HW : Hid (Fr Non wr (wr.alloc (.cells (wcells x).toArray 82))) := (Fr.refl Non wr).alloc _
        clear hWh hc0 hc1
        go_wp2_with (first
          | (guard_target =~ wpList _ _ _ (⟨_, Op.load 82 _, _, _, _, _⟩ :: _) _ _; refine wl rfl (r_load (b := g) (i := k * 257) rfl rfl hr.out Try.underlying82 rfl (by rw [sz82, wcells_length])) ?_)
          | (guard_target =~ wpList _ _ _ (⟨_, Op.alloc 82, _, _, _, _⟩ :: _) _ _; refine wl rfl (r_allocA rfl (zero82 _)) ?_)
          | (guard_target =~ wpList _ _ _ (⟨_, Op.store 82 _ _, _, _, _, _⟩ :: _) _ _; refine wu rfl (r_store_new (c' := (wcells x).toArray) rfl rfl rfl (by simp [sz82, wcells_length]) (by simp [wcells_length, sec_len]) (all_oneCell_toArray (wcells_one x))) ?_; generalize (wr.alloc (.cells (wcells x).toArray 82)) = w2 at *)
          | fail)
        refine rc (fun w' => w'.cell? ⟨wr.heap.size, 0, none⟩ = some (.int .i64 x.1)) 8 (by kernel_rfl) ?_
        have hS : (fun w' : World => w'.cell? ⟨wr.heap.size, 0, none⟩ = some (.int .i64 x.1)) w2.drew := HC0.out
        refine tc (i := 0) (v := u3) rfl 8 (by kernel_rfl) (fun _ _ _ h => h) rfl (fun w hw => r_move rfl rfl) hS ?_
        simp only [Act.put, List.setIfInBounds_toArray, List.set_cons_zero, List.set_cons_succ]
        refine tc (i := 1) (v := .pointer (some ⟨wr.heap.size, 0, none⟩)) rfl 8 (by kernel_rfl) (fun _ _ _ h => h) rfl (fun w hw => by obtain hw0 := hw; unfold RunV; go_simp) hS ?_
        simp only [Act.put, List.setIfInBounds_toArray, List.set_cons_zero, List.set_cons_succ]
        refine tc (i := 2) (v := .int .i64 x.1) rfl 8 (by kernel_rfl) (fun _ _ _ h => h) rfl (fun w hw => by obtain hw0 := hw; unfold RunV; go_simp) hS ?_
        simp only [Act.put, List.setIfInBounds_toArray, List.set_cons_zero, List.set_cons_succ]
        refine tc (i := 3) (v := .pointer (some ⟨wr.heap.size, 1, none⟩)) rfl 8 (by kernel_rfl) (fun _ _ _ h => h) rfl (fun w hw => by obtain hw0 := hw; unfold RunV; go_simp) hS ?_
        simp only [Act.put, List.setIfInBounds_toArray, List.set_cons_zero, List.set_cons_succ]
        refine tc (i := 4) (v := .slice (some ⟨wr.heap.size, 1, none⟩) 256 256) rfl 8 (by kernel_rfl) (fun _ _ _ h => h) rfl (fun w hw => by obtain hw0 := hw; unfold RunV; go_simp) hS ?_
        simp only [Act.put, List.setIfInBounds_toArray, List.set_cons_zero, List.set_cons_succ]
        clear hS
        refine oc1 (i := 5) rfl (by kernel_rfl) rfl ?_
        unfold Oper.wp
        go_simp
        refine (Clone36 w2.drew _ x.2.1 ⟨some ⟨wr.heap.size, 1, none⟩, 256, by rw [x.2.2], .inr ⟨wr.heap.size, 1, rfl, by simpa using HC1.out⟩⟩ (fun h => by have := x.2.2; rw [h] at this; simp at this) (by rw [x.2.2]; decide)).mono ?_
        rintro e w3 ⟨b3, cap3, rfl, ho3, hF3, hle3, hlt3⟩
        have hsl : x.2.1.length = 256 := x.2.2
        rw [hsl] at ho3 ⊢
        have hc3 : w3.cell? ⟨wr.heap.size, 0, none⟩ = some (.int .i64 x.1) := hF3.cell (show w2.drew.cell? _ = _ from HC0.out) (fun h => h)
        refine ⟨hc3, ?_⟩
        refine oc3 (i := 6) rfl (by kernel_rfl) rfl (w' := w3) hc3 (r_build (vs := [(0, .int .i64 x.1), (1, .slice (some ⟨b3, 0, none⟩) 256 cap3)]) rfl rfl (build50 w3 x.1 (some ⟨b3, 0, none⟩, 256, cap3))) ?_
        simp only [Act.put, List.setIfInBounds_toArray, List.set_cons_zero, List.set_cons_succ]
        refine oc3 (i := 7) rfl (by kernel_rfl) rfl (w' := w3.alloc (.cells (encW (x.1, (some ⟨b3, 0, none⟩, 256, cap3))).toArray 50)) (by rw [World.cell?_alloc_lt _ _ _ (by have := World.block_lt_of_cell? w3 _ hc3; exact this)]; exact hc3) (r_buildSlice (vs := [(0, .agg (encW (x.1, (some ⟨b3, 0, none⟩, 256, cap3))).toArray)]) rfl rfl (buildSlice28 w3 (x.1, (some ⟨b3, 0, none⟩, 256, cap3)))) ?_
        simp only [Act.put, List.setIfInBounds_toArray, List.set_cons_zero, List.set_cons_succ]
        have HWF3 : Hid (Fr Non w w3) := ((HF.out.trans HW.out (fun _ _ h => h)).drew).trans hF3 (fun _ _ h => h)
        have HP3 := HP.out.fr (((HW.out.drew).trans hF3 (fun _ _ h => h)).alloc (.cells (encW (x.1, (some ⟨b3, 0, none⟩, 256, cap3))).toArray 50)) (fun _ _ h => h)
        obtain ⟨ys, hy1, hy2, hy3, hy4⟩ := HP3
        obtain ⟨g4, cap4, w4, hrun4, hown4, hgr4, hlies4, hglt4⟩ := run_append_one elem50 (t := 28) (ty := 28) Try.underlying28 (w := w3.alloc (.cells (encW (x.1, (some ⟨b3, 0, none⟩, 256, cap3))).toArray 50)) hy1 (g := w3.heap.size) (x := (x.1, (some ⟨b3, 0, none⟩, 256, cap3))) (heap_alloc_new w3 _) (by unfold maxLen; rw [hy2, List.length_take]; omega) (by rw [hy2, List.length_take]; omega)
        refine oc2 (i := 8) rfl (by kernel_rfl) rfl (by kernel_rfl) (r_builtin (vs := [u3, .slice (some ⟨w3.heap.size, 0, none⟩) 1 1]) rfl rfl (builtin_append hrun4)) ?_
        simp only [Act.put, List.setIfInBounds_toArray, List.set_cons_zero, List.set_cons_succ]
        refine oc2 (i := 9) (v := .slice (some ⟨g4, 0, none⟩) (ys.length + 1) cap4) rfl (by kernel_rfl) rfl (by kernel_rfl) (r_assign rfl rfl) ?_
        simp only [Act.put, List.setIfInBounds_toArray, List.set_cons_zero, List.set_cons_succ]
        refine dc (by kernel_rfl) ?_
        have hPn : PendAt w4 50 w.heap.size (.slice (some ⟨g4, 0, none⟩) (ys.length + 1) cap4) (D.pend.take k ++ [x]) :=
          PendAt.snoc (w := w3.alloc (.cells (encW (x.1, (some ⟨b3, 0, none⟩, 256, cap3))).toArray 50)) (v := u3) (g := b3) (cap := cap3) (by decide) hy1 hy2 hy3 hy4 (ho3.fr ((Fr.refl Non w3).alloc _) (fun _ _ h => h)) (by have := HF.out.size; have := HW.out.size; simp only [World.drew] at hle3; omega)
            (by have := HWF3.out.size; simp; omega) hown4 hgr4 (fun b hb => by
              have e : g4 = b := Option.some.inj hb
              rcases hlies4 with h | h
              · exact .inl (by rw [← e]; exact h)
              · exact .inr (by omega))
        have HPN := Lib.hid hPn
        have HF4 : Hid (Fr Non w w4) := (HWF3.out.alloc _).grown hgr4 (fun b hb hlt => absurd (hy3 b hb) (by omega))
        clear hPn hF3 hc3 ho3 hy1 hy2 hy3 hy4 hown4 hgr4 hlies4 hrun4 hle3 hlt3 hglt4 hsl
        go_wp2
        go_roundw
        case rel =>
          refine ⟨k + 1, by omega, by go_num, ?_, HF4.out⟩
          rw [List.take_add_one, HX.out]
          exact HPN.out
        case measure => simp [intOf] <;> omega
    · obtain rfl : k = D.pend.length := by omega
      rw [List.take_length] at HP
      go_wp2
      go_ret
      exact ⟨u3, rfl, HP.out, HF.out⟩
end Go.Proofs.Yticgkbpmaakkiaa
