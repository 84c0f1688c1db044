/-
  Write: the device's write.
-/
import Derived.Test.YticgkbpmaakkiaaDk2q
import Derived.Test.YticgkbpmaakkiaaLstq
import Derived.WalkSpells

namespace Go.Proofs.Yticgkbpmaakkiaa
open Go.RowKit

theorem info82 : (Try.prog.info? 82).map (fun i => (i.zero, i.size, i.bytes)) = some (some (.agg (.int .i64 0 :: u8s zeroSec.1).toArray), 257, 264) := by kernel_rfl
theorem zero82 (w : World) : (zeroValue 82).run Try.prog w = .ok (.agg (.int .i64 0 :: u8s zeroSec.1).toArray) w := by
  obtain ⟨i, hi, hz, _⟩ := info_parts info82
  simp [zeroValue, typeInfo, hi, hz]
theorem places82 : placesOf Try.prog 82 = some #[(0, 1), (1, 256)] := by kernel_rfl
theorem build82 (w : World) (n : Int) (s : Sec) : (Instr.build 82 #[(0, .int .i64 n), (1, .agg (u8s s.1).toArray)]).run Try.prog w = .ok (.agg (wcells (n, s)).toArray) w := by
  have := run_build_all (P := Try.prog) (w := w) (t := 82) (vs := [.int .i64 n, .agg (u8s s.1).toArray]) (zero82 w) places82 (by
    intro j v hj
    match j, hj with
    | 0, hj => cases hj; rfl
    | 1, hj => cases hj; simp [catCells, Value.cells, sec_len]
    | j + 2, hj => simp at hj) (by simp [catCells, Value.cells, sec_len])
  rw [show (wcells (n, s)) = catCells [.int .i64 n, .agg (u8s s.1).toArray] by simp [catCells, Value.cells, wcells]]
  exact this
theorem buildSlice76 (w : World) (x : Int × Sec) : (Instr.buildSlice 76 1 #[(0, .agg (wcells x).toArray)]).run Try.prog w = .ok (.slice (some ⟨w.heap.size, 0, none⟩) 1 1) (w.alloc (.cells (wcells x).toArray 82)) := by
  have := run_buildSlice_all (P := Try.prog) (w := w) (t := 76) (e := 82) (s := 257) (vs := [.agg (wcells x).toArray]) Try.underlying76 sz82 (zero82 w) (by simp [Value.cells, wcells_length]) (by simp)
  simp only [catCells, List.flatMap_cons, List.flatMap_nil, List.append_nil, Value.cells, List.length_cons, List.length_nil] at this
  exact this

theorem wcells_one (x : Int × Sec) : ∀ u ∈ wcells x, u.oneCell' = true := by
  intro u hu
  rcases List.mem_cons.1 hu with rfl | hu
  · rfl
  · exact u8s_one _ u hu

theorem elem82 : ElemOk Try.prog 82 257 264 wcells := ⟨⟨_, info82, by simp [Value.cells, sec_len]⟩, by omega, wcells_length, wcells_one⟩

/-- What a method may do to the device: its own blocks turn, the slice of pending writes may move to a new block. -/
def Step (w w' : World) (p m : Nat) (pv : Value) (D' : Dsk) : Prop := ∃ pv', DiskAt w' p m pv' D' ∧ Fr (Foot p m pv) w w' ∧ ∀ k, pv'.ownBlock = some k → pv.ownBlock = some k ∨ w.heap.size ≤ k

theorem Step.of_p {w w' : World} {p m : Nat} {pv : Value} {D' : Dsk} (h : DiskAt w' p m pv D') (hf : Fr (· = p) w w') : Step w w' p m pv D' := ⟨pv, h, hf.mono (fun _ _ e => .inl e), fun _ hk => .inl hk⟩
theorem Step.of_m {w w' : World} {p m : Nat} {pv : Value} {D' : Dsk} (h : DiskAt w' p m pv D') (hf : Fr (· = m) w w') : Step w w' p m pv D' := ⟨pv, h, hf.mono (fun _ _ e => .inr (.inl e)), fun _ hk => .inl hk⟩
theorem Step.refl {w w' : World} {p m : Nat} {pv : Value} {D : Dsk} (h : DiskAt w p m pv D) (hf : Fr Non w w') : Step w w' p m pv D := ⟨pv, h.fr hf (fun _ _ h => h), hf.mono (fun _ _ e => e.elim), fun _ hk => .inl hk⟩
theorem Step.trans {w w' w'' : World} {p m : Nat} {pv : Value} {D D' : Dsk} (hw : ∃ D0, DiskAt w p m pv D0) (h : Step w w' p m pv D) (h2 : ∀ pv', DiskAt w' p m pv' D → Step w' w'' p m pv' D') : Step w w'' p m pv D' := by
  obtain ⟨pv1, d1, f1, n1⟩ := h
  obtain ⟨pv2, d2, f2, n2⟩ := h2 pv1 d1
  refine ⟨pv2, d2, f1.trans f2 ?_, ?_⟩
  · rintro i hi (rfl | rfl | hk)
    · exact .inl rfl
    · exact .inr (.inl rfl)
    · rcases n1 i hk with h | h
      · exact .inr (.inr h)
      · omega
  · intro k hk
    rcases n2 k hk with h | h
    · exact n1 k h
    · exact .inr (Nat.le_trans f1.size h)

set_option maxRecDepth 100000 in
theorem Write_ok (w : World) (p m : Nat) (pv : Value) (D : Dsk) (n : Int) (sv : Value) (s : Sec) (h : DiskAt w p m pv D) (hd : D.down = false) (hh : D.has n = true) (hs : D.spent = false) (hl : D.pend.length ≤ 100000)
    (hb : BytesAt w sv s.1) (hsp : ∀ k, sv.ownBlock = some k → k ≠ p ∧ pv.ownBlock ≠ some k) :
    Calls Try.prog 20 #[.pointer (some ⟨p, 0, none⟩), .int .i64 n, sv] w fun e w' => e = .returned (.int .i64 0) ∧ Step w w' p m pv { D.count with pend := D.pend ++ [(n, s)] } := by
  obtain ⟨a, cap, rfl, hs0 | ⟨b, o, rfl, hr⟩⟩ := hb
  · have := s.2; rw [hs0] at this; simp at this
  have hlen : s.1.length = 256 := s.2
  rw [hlen] at *
  obtain ⟨hbp, hbv⟩ := hsp b rfl
  obtain ⟨c0, c1, c2, c3, c4, c5, c6⟩ := h.cell
  rw [hd] at c6
  have HH := Lib.hid h
  have HR := Lib.hid hr
  have HL := Lib.hid hlen
  clear h hr hsp c0 c1 c2 c3 c4 c5 hlen
  go_enter Try.func20, Try.ntmps20
  go_wp2_with (first | (go_at_call 37; refine (has_c w p m pv D n HH.out).mono ?_; rintro e w' ⟨rfl, rfl⟩) | (go_at_call 39; refine (operate_yes w p m pv D HH.out hs).mono ?_; rintro e w1 ⟨rfl, h1, hF1⟩))
  have HH1 := Lib.hid h1
  have HF1 := Lib.hid hF1
  have hv1 := h1.cell.2.2.1
  have hr1 : w1.rangeAt b o (u8s s.1) := rangeAt_fr hF1 HR.out hbp
  have hplt := h1.plt
  have hfz := h1.frozen 2
  have hvne : ∀ k, pv.ownBlock = some k → k ≠ p := fun k hk => (h1.vlt hk).2.1
  have hbw : b < w1.heap.size := World.block_lt_of_cell? w1 ⟨b, o + 0, none⟩ (hr1 0 (.int .u8 (s.1[0]'(by rw [s.2]; omega)).toNat) (by rw [u8s_get, List.getElem?_eq_getElem (by rw [s.2]; omega)]; rfl))
  have hown : Own w1 82 257 wcells pv D.pend := h1.hv
  have hplen : D.count.pend = D.pend := rfl
  clear h1 hF1 hr1
  have hr1 : Hid (w1.rangeAt b o (u8s s.1)) := rangeAt_fr HF1.out HR.out hbp
  refine rc (fun w' => w'.cell? ⟨p, 2, none⟩ = some pv ∧ w'.rangeAt b o (u8s s.1)) 12 (by kernel_rfl) ?_
  have hS : (fun w' : World => w'.cell? ⟨p, 2, none⟩ = some pv ∧ w'.rangeAt b o (u8s s.1)) w1.drew := ⟨hv1, by simpa using hr1.out⟩
  refine tc (i := 0) (v := .pointer (some ⟨p, 0, none⟩)) rfl 8 (by kernel_rfl) (fun _ _ _ h => h) rfl (fun w hw => r_move rfl rfl) hS ?_
  simp only [Act.put, List.setIfInBounds_toArray, List.set_cons_zero, List.set_cons_succ]
  refine tc (i := 1) (v := .pointer (some ⟨p, 0, none⟩)) rfl 8 (by kernel_rfl) (fun _ _ _ h => h) rfl (fun w hw => r_move rfl rfl) hS ?_
  simp only [Act.put, List.setIfInBounds_toArray, List.set_cons_zero, List.set_cons_succ]
  refine tc (i := 2) rfl 8 (by kernel_rfl) (fun _ _ _ h => h) rfl (fun w hw => r_nilCheck (p := ⟨p, 0, none⟩) rfl rfl) hS ?_
  simp only [Act.put, List.setIfInBounds_toArray, List.set_cons_zero, List.set_cons_succ]
  refine tc (i := 3) (v := .pointer (some ⟨p, 2, none⟩)) rfl 8 (by kernel_rfl) (fun _ _ _ h => h) rfl (fun w hw => by unfold RunV; go_simp) hS ?_
  simp only [Act.put, List.setIfInBounds_toArray, List.set_cons_zero, List.set_cons_succ]
  refine tc (i := 4) (v := pv) rfl 8 (by kernel_rfl) (fun _ _ _ h => h) rfl (fun w hw => by obtain ⟨hw1, _⟩ := hw; unfold RunV; go_simp) hS ?_
  simp only [Act.put, List.setIfInBounds_toArray, List.set_cons_zero, List.set_cons_succ]
  refine tc (i := 5) (v := .int .i64 n) rfl 8 (by kernel_rfl) (fun _ _ _ h => h) rfl (fun w hw => r_move rfl rfl) hS ?_
  simp only [Act.put, List.setIfInBounds_toArray, List.set_cons_zero, List.set_cons_succ]
  refine tc (i := 6) (v := .slice (some ⟨b, o, none⟩) 256 cap) rfl 8 (by kernel_rfl) (fun _ _ _ h => h) rfl (fun w hw => r_move rfl rfl) hS ?_
  simp only [Act.put, List.setIfInBounds_toArray, List.set_cons_zero, List.set_cons_succ]
  refine tc (i := 7) rfl 8 (by kernel_rfl) (fun _ _ _ h => h) rfl (fun w hw => r_atp (p := some ⟨b, o, none⟩) (l := 256) (c := cap) rfl rfl Try.underlying80 (Nat.le_refl _)) hS ?_
  simp only [Act.put, List.setIfInBounds_toArray, List.set_cons_zero, List.set_cons_succ]
  refine tc (i := 8) rfl 8 (by kernel_rfl) (fun _ _ _ h => h) rfl (fun w hw => r_load (b := b) (i := o) rfl rfl hw.2 Try.underlying80 rfl (by rw [sz80, sec_len])) hS ?_
  simp only [Act.put, List.setIfInBounds_toArray, List.set_cons_zero, List.set_cons_succ]
  refine tc (i := 9) rfl 8 (by kernel_rfl) (fun _ _ _ h => h) rfl (fun w hw => r_build (vs := [(0, .int .i64 n), (1, .agg (u8s s.1).toArray)]) rfl rfl (build82 w n s)) hS ?_
  simp only [Act.put, List.setIfInBounds_toArray, List.set_cons_zero, List.set_cons_succ]
  have hr2 : (w1.drew.alloc (.cells (wcells (n, s)).toArray 82)).rangeAt b o (u8s s.1) := rangeAt_fr (S := Non) ((Fr.refl Non w1).drew.alloc _) hr1.out (fun h => h)
  refine oc3 (i := 10) rfl (by kernel_rfl) rfl (w' := w1.drew.alloc (.cells (wcells (n, s)).toArray 82)) ⟨by rw [World.cell?_alloc_lt _ _ _ (by exact hplt)]; exact hv1, hr2⟩ (r_buildSlice (vs := [(0, .agg (wcells (n, s)).toArray)]) rfl rfl (buildSlice76 _ (n, s))) ?_
  simp only [Act.put, List.setIfInBounds_toArray, List.set_cons_zero, List.set_cons_succ]
  obtain ⟨g, cap', w2, hrun, hown2, hgr, hlies, hglt⟩ := run_append_one elem82 (t := 76) (ty := 76) Try.underlying76 (w := w1.drew.alloc (.cells (wcells (n, s)).toArray 82)) (v := pv) (l := D.pend) (g := w1.heap.size) (x := (n, s))
    (Own.fr ((Fr.refl Non w1).drew.alloc _) hown (fun _ _ h => h)) (heap_alloc_new w1.drew _) (by unfold maxLen; omega) (by omega)
  have hF2 : Fr (fun k => pv.ownBlock = some k) w1 w2 := ((Fr.refl _ w1).drew.alloc _).grown hgr (fun k hk _ => hk)
  refine oc3 (i := 11) rfl (by kernel_rfl) rfl (w' := w2) ⟨hF2.cell hv1 (fun hk => hvne _ hk rfl), rangeAt_fr hF2 hr1.out hbv⟩ (r_builtin (vs := [pv, .slice (some ⟨w1.heap.size, 0, none⟩) 1 1]) rfl rfl (builtin_append hrun)) ?_
  simp only [Act.put, List.setIfInBounds_toArray, List.set_cons_zero, List.set_cons_succ]
  refine oc2 (i := 12) rfl (by kernel_rfl) rfl (by kernel_rfl) (r_nilCheck (p := ⟨p, 0, none⟩) rfl rfl) ?_
  simp only [Act.put, List.setIfInBounds_toArray, List.set_cons_zero, List.set_cons_succ]
  refine oc2 (i := 13) (w' := w2) (v := .pointer (some ⟨p, 2, none⟩)) rfl (by kernel_rfl) rfl (by kernel_rfl) (by unfold RunV; go_simp) ?_
  simp only [Act.put, List.setIfInBounds_toArray, List.set_cons_zero, List.set_cons_succ]
  have hfz2 : w2.frozen? ⟨p, 2, none⟩ = false := by
    rw [World.frozen?_of_block (w := w1) (hF2.block p hplt (fun hk => hvne _ hk rfl))]; exact hfz
  have hc2 := hF2.cell hv1 (fun hk => hvne _ hk rfl)
  refine oc2u (i := 14) (w' := w2.setCell ⟨p, 2, none⟩ (.slice (some ⟨g, 0, none⟩) (D.pend.length + 1) cap')) rfl (by kernel_rfl) rfl (by kernel_rfl) (by unfold RunU; go_simp) ?_
  simp only [Act.put, List.setIfInBounds_toArray, List.set_cons_zero, List.set_cons_succ]
  refine dc (by kernel_rfl) ?_
  have hfin : Step w (w2.setCell ⟨p, 2, none⟩ (.slice (some ⟨g, 0, none⟩) (D.pend.length + 1) cap')) p m pv { D.count with pend := D.pend ++ [(n, s)] } := by
    have h1 := HH1.out
    have hp2 := hF2.keep h1.hp (fun hk => hvne _ hk rfl)
    obtain ⟨l, hm, hg⟩ := h1.hm
    have hm2 := hm.fr hF2 (fun hk => (h1.vlt hk).2.2 rfl)
    have hgp : g ≠ p := by
      rintro rfl
      rcases hlies with h | h
      · exact hvne _ h rfl
      · simp at h; omega
    have hF3 : Fr (· = p) w2 (w2.setCell ⟨p, 2, none⟩ (.slice (some ⟨g, 0, none⟩) (D.pend.length + 1) cap')) := (Fr.refl _ w2).setCell _ _ (fun _ => rfl)
    refine ⟨.slice (some ⟨g, 0, none⟩) (D.pend.length + 1) cap', ⟨by rw [heap_setCell_at hp2]; rfl, ⟨l, hm2.fr hF3 (fun e => h1.mne e), hg⟩, ?_⟩, ?_, ?_⟩
    · have := Own.fr hF3 hown2 (fun k hk e => by simp [Value.ownBlock] at hk; exact hgp (hk.trans e))
      unfold Own at this
      simpa [pcells] using this
    · refine ((HF1.out.mono (T := Foot p m pv) (fun _ _ e => .inl e)).trans hF2 (fun i _ hi => .inr (.inr hi))).setCell _ _ (fun _ => .inl rfl)
    · intro k hk
      simp [Value.ownBlock] at hk
      subst hk
      rcases hlies with h | h
      · exact .inl h
      · right; have := HF1.out.size; simp at h; omega
  have HFIN := Lib.hid hfin
  clear hfin
  go_wp2
  go_ret
  exact ⟨rfl, HFIN.out⟩
end Go.Proofs.Yticgkbpmaakkiaa

namespace Go.Proofs.Yticgkbpmaakkiaa
open Go.RowKit

def Dsk.storeAll (D : Dsk) (l : List (Int × Sec)) : Dsk := l.foldl (fun D x => D.store x.1 x.2) D

theorem storeAll_keeps (l : List (Int × Sec)) : ∀ D : Dsk, (D.storeAll l).pend = D.pend ∧ (D.storeAll l).n = D.n ∧ (D.storeAll l).ops = D.ops ∧ (D.storeAll l).limited = D.limited ∧ (D.storeAll l).limit = D.limit ∧ (D.storeAll l).down = D.down := by
  induction l with
  | nil => intro D; exact ⟨rfl, rfl, rfl, rfl, rfl, rfl⟩
  | cons x r ih => intro D; exact ih (D.store x.1 x.2)

set_option maxRecDepth 100000 in
theorem Flush_ok (w : World) (p m : Nat) (pv : Value) (D : Dsk) (h : DiskAt w p m pv D) (hd : D.down = false) (hs : D.spent = false) (hl : D.pend.length ≤ 100000) :
    Calls Try.prog 19 #[.pointer (some ⟨p, 0, none⟩)] w fun e w' => e = .returned (.int .i64 0) ∧ Step w w' p m pv { D.count.storeAll D.pend with pend := [] } := by
  obtain ⟨c0, c1, c2, c3, c4, c5, c6⟩ := h.cell
  rw [hd] at c6
  have HH := Lib.hid h
  clear h c0 c1 c2 c3 c4 c5
  obtain ⟨a, cap, rfl, hcap, hnil, hag⟩ := Own.shape (show Own w 82 257 wcells pv D.pend from HH.out.hv)
  go_enter Try.func19, Try.ntmps19
  go_wp2_with (first | (go_at_call 39; refine (operate_yes w p m _ D HH.out hs).mono ?_; rintro e w1 ⟨rfl, h1, hF1⟩; obtain ⟨c0, c1, c2, c3, c4, c5, c6⟩ := h1.cell; have HH1 := Lib.hid h1; have HF1 := Lib.hid hF1; clear h1 hF1 c0 c1 c3 c4 c5))
  go_loopw [22] (fun i wr => ∃ k : Nat, k ≤ D.pend.length ∧ i = .int .i64 k ∧ DiskAt wr p m (.slice a D.pend.length cap) (D.count.storeAll (D.pend.take k)) ∧ Fr (Foot p m (.slice a D.pend.length cap)) w wr) (fun i _ => D.pend.length - (intOf i).toNat)
  case atStart => exact ⟨0, by omega, rfl, HH1.out, HF1.out.mono (fun _ _ e => .inl e)⟩
  case round =>
    obtain ⟨k, hk, rfl, hD, hF⟩ := hrel
    have HD := Lib.hid hD
    have HF := Lib.hid hF
    clear hD hF
    by_cases hlt : k < D.pend.length
    · obtain ⟨x, hx⟩ : ∃ x, D.pend[k]? = some x := ⟨_, List.getElem?_eq_getElem hlt⟩
      have HX := Lib.hid hx
      clear hx
      cases a with
      | none => have := hnil rfl; rw [this] at hlt; simp at hlt
      | some ad =>
        obtain ⟨g, rfl⟩ := hag ad rfl
        have hown : Own wr 82 257 wcells (.slice (some ⟨g, 0, none⟩) D.pend.length cap) D.pend := by
          have : (D.count.storeAll (D.pend.take k)).pend = D.pend := (storeAll_keeps _ _).1
          have h := HD.out.hv
          rw [this] at h; exact h
        have hr := Lib.hid (Own.elem elem82 hown HX.out)
        clear hown
        have hW : DiskAt (wr.alloc (.cells (wcells x).toArray 82)) p m (.slice (some ⟨g, 0, none⟩) D.pend.length cap) (D.count.storeAll (D.pend.take k)) := HD.out.fr ((Fr.refl Non wr).alloc _) (fun _ _ h => h)
        have hWF : Fr (Foot p m (.slice (some ⟨g, 0, none⟩) D.pend.length cap)) w (wr.alloc (.cells (wcells x).toArray 82)) := HF.out.alloc _
        have hWh : (wr.alloc (.cells (wcells x).toArray 82)).heap[wr.heap.size]? = some (.cells (wcells x).toArray 82) := heap_alloc_new wr _
        have hc0 : (wr.alloc (.cells (wcells x).toArray 82)).cell? ⟨wr.heap.size, 0, none⟩ = some (.int .i64 x.1) := cellOf hWh 0 (by simp [wcells])
        have hc1 : (wr.alloc (.cells (wcells x).toArray 82)).rangeAt wr.heap.size 1 (u8s x.2.1) := rangeAt_of hWh 1 _ (fun j v hv => by simpa [wcells, Nat.add_comm 1 j] using hv)
        have HW := Lib.hid hW
        have HWF := Lib.hid hWF
        have HC1 := Lib.hid hc1
        clear hW hWF hWh hc1 HD HF
        go_wp2_with (first
          | (guard_target =~ wpList _ _ _ (⟨_, Op.load 82 _, _, _, _, _⟩ :: _) _ _; refine wl rfl (r_load (b := g) (i := k * 257) rfl rfl hr.out Try.underlying82 rfl (by rw [sz82, wcells_length])) ?_)
          | (guard_target =~ wpList _ _ _ (⟨_, Op.alloc 82, _, _, _, _⟩ :: _) _ _; refine wl rfl (r_allocA rfl (zero82 _)) ?_)
          | (guard_target =~ wpList _ _ _ (⟨_, Op.store 82 _ _, _, _, _, _⟩ :: _) _ _; refine wu rfl (r_store_new (c' := (wcells x).toArray) rfl rfl rfl (by simp [sz82, wcells_length]) (by simp [wcells_length, sec_len]) (all_oneCell_toArray (wcells_one x))) ?_; generalize (wr.alloc (.cells (wcells x).toArray 82)) = w2 at *)
          | (guard_target =~ wpList _ _ _ (⟨_, Op.load 80 _, _, _, _, _⟩ :: _) _ _; refine wl rfl (r_load (b := wr.heap.size) (i := 1) rfl rfl HC1.out Try.underlying80 rfl (by rw [sz80, sec_len])) ?_)
          | fail)
        refine (store_c w2 p m _ _ x.1 x.2 HW.out).mono ?_
        rintro e w3 ⟨rfl, h3, hF3⟩
        have H3 := Lib.hid h3
        have HF3 := Lib.hid hF3
        clear h3 hF3
        go_wp2
        go_roundw
        case rel =>
          refine ⟨k + 1, by omega, by go_num, ?_, HWF.out.trans HF3.out (fun i _ e => .inr (.inl e))⟩
          have : D.count.storeAll (D.pend.take (k + 1)) = (D.count.storeAll (D.pend.take k)).store x.1 x.2 := by
            rw [List.take_add_one, HX.out]
            simp [Dsk.storeAll]
          rw [this]
          exact H3.out
        case measure => simp [intOf]; omega
    · obtain rfl : k = D.pend.length := by omega
      rw [List.take_length] at HD
      obtain ⟨d0, d1, d2, d3, d4, d5, d6⟩ := HD.out.cell
      have f2 := HD.out.frozen 2
      have hfin : Step w (wr.setCell ⟨p, 2, none⟩ (.slice none 0 0)) p m (.slice a D.pend.length cap) { D.count.storeAll D.pend with pend := [] } := by
        have hD := HD.out
        obtain ⟨l, hm, hg⟩ := hD.hm
        have hF3 : Fr (· = p) wr (wr.setCell ⟨p, 2, none⟩ (.slice none 0 0)) := (Fr.refl _ wr).setCell _ _ (fun _ => rfl)
        exact ⟨.slice none 0 0, ⟨by rw [heap_setCell_at hD.hp]; rfl, ⟨l, hm.fr hF3 (fun e => hD.mne e), hg⟩, World.ownsRow_nil _ _ _ _⟩, HF.out.trans hF3 (fun i _ e => .inl e), fun k hk => by simp [Value.ownBlock] at hk⟩
      have HFIN := Lib.hid hfin
      clear hfin HD HF d0 d1 d3 d4 d5 d6
      go_wp2
      go_ret
      exact ⟨rfl, HFIN.out⟩
end Go.Proofs.Yticgkbpmaakkiaa
