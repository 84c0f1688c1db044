/-
  Clone.
  What a run keeps in sectors that it does not name; two devices side by side.
-/
import Derived.Test.YticgkbpmaakkiaaDl3q
import Derived.Shelf.SlMaps.Clone

namespace Go.Proofs.Yticgkbpmaakkiaa
open Go.RowKit

theorem info78 : (Try.prog.info? 78).map (fun i => (i.zero, i.size)) = some (some (.agg #[.int .i64 0, .map none, .slice none 0 0, .int .i64 0, .bool false, .int .i64 0, .bool false]), 7) := by kernel_rfl
theorem sz78 : (Try.prog.info? 78).map (·.size) = some 7 := by kernel_rfl
theorem zero78 (w : World) : (zeroValue 78).run Try.prog w = .ok (.agg #[.int .i64 0, .map none, .slice none 0 0, .int .i64 0, .bool false, .int .i64 0, .bool false]) w := (zero_of_info info78).1 w

set_option maxRecDepth 100000 in
theorem mapsClone_c (w : World) (b : Nat) (es : Array MapEntry) (clock : Nat) (hb : w.heap[b]? = some (.map es clock)) :
    Calls Try.prog 43 #[.map (some b)] w fun e w' => e = .returned (.map (some w.heap.size)) ∧ w' = w.alloc (.map es clock) := by
  have hq := fun w => run_eql_map_nil_sl (P := Try.prog) w 75 _ _ (some b) Try.underlying75
  go_enter Try.func43, Try.ntmps43
  go_wp2
  rw [run_callFunc_extern Try.func61 (by kernel_rfl) (by kernel_rfl) (by kernel_rfl) (e := Extern.MapsClone.clone) (by kernel_rfl), run_maps_clone_sl w 75 hb]
  simp only [Result.andThen]
  rw [Oper.upon_value]
  go_wp2
  rw [run_typeAssert_map_sl _ 75 20 _ _ _ Try.underlying75]
  simp only [Result.andThen]
  rw [Oper.upon_value]
  go_wp2
  go_ret
  exact ⟨rfl, rfl⟩

theorem buildSlice76_0 (w : World) : (Instr.buildSlice 76 0 #[]).run Try.prog w = .ok (.slice (some ⟨w.heap.size, 0, none⟩) 0 0) (w.alloc (.cells #[] 82)) :=
  run_buildSlice_all (P := Try.prog) (w := w) (t := 76) (e := 82) (s := 257) (vs := []) Try.underlying76 sz82 (zero82 w) (by intro v hv; cases hv) (by simp)
theorem own82_empty (w : World) : Own (w.alloc (.cells #[] 82)) 82 257 wcells (.slice (some ⟨w.heap.size, 0, none⟩) 0 0) [] := by
  refine ⟨rfl, .inr ⟨w.heap.size, 0, #[], rfl, Nat.zero_le _, heap_alloc_new w _, Nat.le_refl _, Nat.zero_le _, rfl, rfl⟩⟩
theorem append_zero {P : Program} {w : World} {t ty e : TypeId} {i : TypeInfo} (ht : P.underlying t = some (.slice e)) (hi : P.info? e = some i) (g : Nat) (ad : Addr) (c : Nat) : (Builtin.append_ #[t, t] ty #[.slice (some ⟨g, 0, none⟩) 0 0, .slice (some ad) 0 c]).run P w = .ok (.slice (some ⟨g, 0, none⟩) 0 0) w := by
  simp [Builtin.append_, run_underlying ht, sizeOf, typeInfo, hi, Builtin.lenOf, Builtin.firstCells, storeCells, loadCells, loadCellsFrom]

set_option maxRecDepth 100000 in
theorem sliceClone_c (w : World) (a : Option Addr) (cap : Nat) (l : List (Int × Sec)) (h : Own w 82 257 wcells (.slice a l.length cap) l) (hl : l.length ≤ 100000) :
    Calls Try.prog 44 #[.slice a l.length cap] w fun e w' => ∃ a' cap', e = .returned (.slice a' l.length cap') ∧ Own w' 82 257 wcells (.slice a' l.length cap') l ∧ Fr Non w w' ∧ ∀ k, (Value.slice a' l.length cap').ownBlock = some k → w.heap.size ≤ k := by
  obtain ⟨a', cap', e, hc, hn, hag⟩ := Own.shape h
  obtain ⟨rfl, -, rfl⟩ := Value.slice.inj e
  cases a with
  | none =>
    have h0 := hn rfl
    subst h0
    have hq := eql_nil (P := Try.prog) Try.underlying76 w none 0 cap
    have HH := Lib.hid h
    clear h e hn hag hc
    go_enter Try.func44, Try.ntmps44
    go_wp2
    go_ret
    exact ⟨none, 0, rfl, Own.nil _ _ _ _, Fr.refl _ _, fun k hk => by cases hk⟩
  | some ad =>
    obtain ⟨g, rfl⟩ := hag ad rfl
    have hq := eql_nil (P := Try.prog) Try.underlying76 w (some ⟨g, 0, none⟩) l.length cap
    obtain ⟨i, hi, hz1, hz2, hz3⟩ := info_parts info82
    have hF1 : Fr Non w (w.alloc (.cells #[] 82)) := (Fr.refl _ w).alloc _
    have ho1 := own82_empty w
    have h1 := h.fr hF1 (fun _ _ h => h)
    have hrun : ∃ b cap2 w2, (Builtin.append_ #[76, 76] 76 #[.slice (some ⟨w.heap.size, 0, none⟩) 0 0, .slice (some ⟨g, 0, none⟩) l.length cap]).run Try.prog (w.alloc (.cells #[] 82)) = .ok (.slice (some ⟨b, 0, none⟩) l.length cap2) w2 ∧
        Own w2 82 257 wcells (.slice (some ⟨b, 0, none⟩) l.length cap2) l ∧ Fr Non w w2 ∧ w.heap.size ≤ b := by
      cases l with
      | nil => exact ⟨_, _, _, append_zero Try.underlying76 hi _ _ _, ho1, hF1, Nat.le_refl _⟩
      | cons x r =>
        obtain ⟨b, cap2, w2, r1, r2, r3, r4, r5⟩ := run_append_many elem82 (t := 76) (ty := 76) Try.underlying76 ho1 (g := g) (o := 0) (c := cap) (ys := x :: r) (by
          intro j v hv
          rcases h1.2 with ⟨hh, _⟩ | ⟨g', cap', cur, hv', _, hg, _, _, _, htake⟩
          · cases hh
          · cases hv'
            rw [cell_of_row _ g _ cur 82 (0, 0) hg]
            rw [← htake, List.getElem?_take] at hv
            split at hv
            · simpa using hv
            · cases hv) (by simp) (by unfold maxLen; simp at hl ⊢; omega) (by simp at hl ⊢; omega)
        refine ⟨b, cap2, w2, ?_, ?_, hF1.grown r3 (fun k hk hlt => by have : w.heap.size = k := Option.some.inj hk; omega), ?_⟩
        · rw [r1]; simp
        · have : ([] : List (Int × Sec)).length + (x :: r).length = (x :: r).length := by simp
          rw [this] at r2; simpa using r2
        · rcases r4 with h | h
          · cases h; exact Nat.le_refl _
          · simp at h; omega
    obtain ⟨b, cap2, w2, r1, r2, r3, r4⟩ := hrun
    have HR := Lib.hid r1
    have HO := Lib.hid r2
    have HF := Lib.hid r3
    clear r1 r2 r3 h h1 ho1 hF1 hi hz1 hz2 hz3 hn hag hc e
    go_enter Try.func44, Try.ntmps44
    go_wp2_with (first
      | (guard_target =~ wpList _ _ _ (⟨_, Op.buildSlice _ _ _, _, _, _, _⟩ :: _) _ _; refine wl rfl (r_buildSlice (vs := []) rfl rfl (buildSlice76_0 w)) ?_)
      | (at_builtin; refine wl rfl (r_builtin (vs := [.slice (some ⟨w.heap.size, 0, none⟩) 0 0, .slice (some ⟨g, 0, none⟩) l.length cap]) rfl rfl (builtin_append HR.out)) ?_)
      | fail)
    go_ret
    exact ⟨_, _, rfl, HO.out, HF.out, fun k hk => by cases hk; exact r4⟩

theorem dk_one (D : Dsk) (m : Nat) (a : Option Addr) (n cap : Nat) : (dkCells D m (.slice a n cap)).all (·.oneCell') = true := by
  have : ∀ v ∈ ([.int .i64 D.n, .map (some m), .slice a n cap, .int .i64 D.ops, .bool D.limited, .int .i64 D.limit, .bool D.down] : List Value), v.oneCell' = true := by
    intro v hv
    simp only [List.mem_cons, List.not_mem_nil, or_false] at hv
    rcases hv with rfl | rfl | rfl | rfl | rfl | rfl | rfl <;> rfl
  exact all_oneCell_toArray this

set_option maxRecDepth 100000 in
theorem Clone_nil (w : World) : Calls Try.prog 26 #[.pointer none] w fun e w' => e = .returned (.pointer none) ∧ w = w' := by
  go_enter Try.func26, Try.ntmps26
  go_wp2
  go_ret
  exact ⟨rfl, rfl⟩

set_option maxRecDepth 100000 in
set_option maxHeartbeats 1000000 in
theorem Clone_c (w : World) (p m : Nat) (pv : Value) (D : Dsk) (h : DiskAt w p m pv D) (hl : D.pend.length ≤ 100000) :
    Calls Try.prog 26 #[.pointer (some ⟨p, 0, none⟩)] w fun e w' => ∃ p' m' pv', e = .returned (.pointer (some ⟨p', 0, none⟩)) ∧ DiskAt w' p' m' pv' D ∧ Fr Non w w' ∧ ∀ k, Foot p' m' pv' k → w.heap.size ≤ k := by
  obtain ⟨a, cap, rfl, -, -, -⟩ := Own.shape (show Own w 82 257 wcells pv D.pend from h.hv)
  obtain ⟨ml, hml, hget⟩ := h.hm
  obtain ⟨es, clock, hbm, hes⟩ := hml.ex
  have hr := rangeAt_of h.hp 0 (dkCells D m (.slice a D.pend.length cap)).toList (by simp)
  have hF1 : Fr Non w (w.alloc (.cells (dkCells D m (.slice a D.pend.length cap)) 78)) := (Fr.refl _ w).alloc _
  have hb1 := heap_alloc_new w (.cells (dkCells D m (.slice a D.pend.length cap)) 78)
  have hS0 : ∀ W, Fr Non (w.alloc (.cells (dkCells D m (.slice a D.pend.length cap)) 78)) W → (fun W : World => W.cell? ⟨p, 1, none⟩ = some (.map (some m)) ∧ W.cell? ⟨p, 2, none⟩ = some (.slice a D.pend.length cap)) W := fun W hW =>
    ⟨(hF1.trans hW (fun _ _ h => h)).cell h.cell.2.1 (fun h => h), (hF1.trans hW (fun _ _ h => h)).cell h.cell.2.2.1 (fun h => h)⟩
  have HR := Lib.hid hr
  have HF1 := Lib.hid hF1
  have HB1 := Lib.hid hb1
  have HES : Hid ((w.alloc (.cells (dkCells D m (.slice a D.pend.length cap)) 78)).drew.heap[m]? = some (.map es clock)) := hF1.keep hbm (fun h => h)
  have HOW := Lib.hid (Own.fr hF1 (show Own w 82 257 wcells _ D.pend from h.hv) (fun _ _ h => h))
  have HM := Lib.hid (And.intro hml.nodup (And.intro hes hget))
  have HL := Lib.hid hl
  have HS := Lib.hid hS0
  clear h hr hF1 hb1 hS0 hbm hes hml hget hl
  go_enter Try.func26, Try.ntmps26
  go_wp2_with (first
    | (guard_target =~ wpList _ _ _ (⟨_, Op.load 78 _, _, _, _, _⟩ :: _) _ _; refine wl rfl (r_load (b := p) (i := 0) rfl rfl HR.out Try.underlying78 rfl (by rw [sz78]; rfl)) ?_)
    | (guard_target =~ wpList _ _ _ (⟨_, Op.alloc 78, _, _, _, _⟩ :: _) _ _; refine wl rfl (r_allocA rfl (zero78 _)) ?_)
    | (guard_target =~ wpList _ _ _ (⟨_, Op.store 78 _ _, _, _, _, _⟩ :: _) _ _; refine wu rfl (r_store_new (c' := dkCells D m (.slice a D.pend.length cap)) rfl rfl rfl (by rw [sz78]; rfl) rfl (dk_one _ _ _ _ _)) ?_; generalize w.alloc (.cells (dkCells D m (.slice a D.pend.length cap)) 78) = w1 at *)
    | fail)
  refine rc (fun W : World => W.cell? ⟨p, 1, none⟩ = some (.map (some m)) ∧ W.cell? ⟨p, 2, none⟩ = some (.slice a D.pend.length cap)) 9 (by kernel_rfl) ?_
  have hS : (fun W : World => W.cell? ⟨p, 1, none⟩ = some (.map (some m)) ∧ W.cell? ⟨p, 2, none⟩ = some (.slice a D.pend.length cap)) w1.drew := HS.out _ ((Fr.refl Non w1).drew)
  refine tp (i := 0) (v := .pointer (some ⟨p, 0, none⟩)) rfl (by kernel_rfl) (fun _ _ _ h => h) rfl (fun W0 => r_move rfl rfl) (.inr hS) ?_
  simp only [Act.put, List.setIfInBounds_toArray, List.set_cons_zero, List.set_cons_succ]
  refine tp (i := 1) (v := .pointer (some ⟨p, 0, none⟩)) rfl (by kernel_rfl) (fun _ _ _ h => h) rfl (fun W0 => by unfold RunV; go_simp) (.inr hS) ?_
  simp only [Act.put, List.setIfInBounds_toArray, List.set_cons_zero, List.set_cons_succ]
  refine tp (i := 2) (v := .pointer (some ⟨p, 1, none⟩)) rfl (by kernel_rfl) (fun _ _ _ h => h) rfl (fun W0 => by unfold RunV; go_simp) (.inr hS) ?_
  simp only [Act.put, List.setIfInBounds_toArray, List.set_cons_zero, List.set_cons_succ]
  refine tp (i := 5) (v := .pointer (some ⟨p, 0, none⟩)) rfl (by kernel_rfl) (fun _ _ _ h => h) rfl (fun W0 => r_move rfl rfl) (.inr hS) ?_
  simp only [Act.put, List.setIfInBounds_toArray, List.set_cons_zero, List.set_cons_succ]
  refine tp (i := 6) (v := .pointer (some ⟨p, 0, none⟩)) rfl (by kernel_rfl) (fun _ _ _ h => h) rfl (fun W0 => by unfold RunV; go_simp) (.inr hS) ?_
  simp only [Act.put, List.setIfInBounds_toArray, List.set_cons_zero, List.set_cons_succ]
  refine tp (i := 7) (v := .pointer (some ⟨p, 2, none⟩)) rfl (by kernel_rfl) (fun _ _ _ h => h) rfl (fun W0 => by unfold RunV; go_simp) (.inr hS) ?_
  simp only [Act.put, List.setIfInBounds_toArray, List.set_cons_zero, List.set_cons_succ]
  refine tc (i := 3) (v := .map (some m)) rfl 8 (by kernel_rfl) (fun _ _ _ h => h) rfl (fun W0 hw => by obtain ⟨hw0, hw1⟩ := hw; unfold RunV; go_simp) hS ?_
  simp only [Act.put, List.setIfInBounds_toArray, List.set_cons_zero, List.set_cons_succ]
  refine tc (i := 8) (v := .slice a D.pend.length cap) rfl 8 (by kernel_rfl) (fun _ _ _ h => h) rfl (fun W0 hw => by obtain ⟨hw0, hw1⟩ := hw; unfold RunV; go_simp) hS ?_
  simp only [Act.put, List.setIfInBounds_toArray, List.set_cons_zero, List.set_cons_succ]
  refine oc1 (i := 4) rfl (by kernel_rfl) rfl ?_
  unfold Oper.wp
  go_simp
  refine (mapsClone_c w1.drew m es clock HES.out).mono ?_
  rintro e w2 ⟨rfl, rfl⟩
  have hF2 : Fr Non w1 (w1.drew.alloc (.map es clock)) := ((Fr.refl Non w1).drew).alloc _
  have hS2 : (fun W : World => W.cell? ⟨p, 1, none⟩ = some (.map (some m)) ∧ W.cell? ⟨p, 2, none⟩ = some (.slice a D.pend.length cap)) (w1.drew.alloc (.map es clock)) := HS.out _ hF2
  have hm2 := heap_alloc_new w1.drew (.map es clock)
  generalize w1.drew.alloc (.map es clock) = w2 at *
  refine ⟨hS2, ?_⟩
  clear hS
  refine oc4 (i := 9) rfl (by kernel_rfl) rfl (by kernel_rfl) ?_
  unfold Oper.wp
  go_simp
  refine (sliceClone_c w2 a cap D.pend (HOW.out.fr hF2 (fun _ _ h => h)) HL.out).mono ?_
  rintro e w3 ⟨a3, cap3, rfl, ho3, hF3, hn3⟩
  have hb3 := (hF2.trans hF3 (fun _ _ h => h)).keep HB1.out (fun h => h)
  have c31 := cellOf hb3 1 rfl
  have f31 := frozenOf hb3 1
  refine tp (i := 10) (v := .pointer (some ⟨w.heap.size, 1, none⟩)) rfl (by kernel_rfl) (fun _ _ _ h => h) rfl (fun W0 => by unfold RunV; go_simp) (.inl (by kernel_rfl)) ?_
  simp only [Act.put, List.setIfInBounds_toArray, List.set_cons_zero, List.set_cons_succ]
  refine oc2u (i := 11) rfl (by kernel_rfl) rfl (by kernel_rfl) (w' := w3.setCell ⟨w.heap.size, 1, none⟩ (.map (some w1.heap.size))) (by unfold RunU; go_simp) ?_
  simp only [Act.put, List.setIfInBounds_toArray, List.set_cons_zero, List.set_cons_succ]
  have hb4 := heap_setCell_at hb3 1 (.map (some w1.heap.size))
  have hF4 : Fr (· = w.heap.size) w3 (w3.setCell ⟨w.heap.size, 1, none⟩ (.map (some w1.heap.size))) := (Fr.refl _ _).setCell _ _ (fun _ => rfl)
  clear c31 f31
  have c42 := cellOf hb4 2 rfl
  have f42 := frozenOf hb4 2
  generalize w3.setCell ⟨w.heap.size, 1, none⟩ (.map (some w1.heap.size)) = w4 at *
  refine tp (i := 12) (v := .pointer (some ⟨w.heap.size, 2, none⟩)) rfl (by kernel_rfl) (fun _ _ _ h => h) rfl (fun W0 => by unfold RunV; go_simp) (.inl (by kernel_rfl)) ?_
  simp only [Act.put, List.setIfInBounds_toArray, List.set_cons_zero, List.set_cons_succ]
  refine oc2u (i := 13) rfl (by kernel_rfl) rfl (by kernel_rfl) (w' := w4.setCell ⟨w.heap.size, 2, none⟩ (.slice a3 D.pend.length cap3)) (by unfold RunU; go_simp) ?_
  simp only [Act.put, List.setIfInBounds_toArray, List.set_cons_zero, List.set_cons_succ]
  have hb5 := heap_setCell_at hb4 2 (.slice a3 D.pend.length cap3)
  have hF5 : Fr (· = w.heap.size) w3 (w4.setCell ⟨w.heap.size, 2, none⟩ (.slice a3 D.pend.length cap3)) := hF4.setCell _ _ (fun _ => rfl)
  clear c42 f42
  generalize w4.setCell ⟨w.heap.size, 2, none⟩ (.slice a3 D.pend.length cap3) = w5 at *
  refine dc (by kernel_rfl) ?_
  go_wp2
  go_ret
  refine ⟨w.heap.size, w1.heap.size, .slice a3 D.pend.length cap3, rfl, ?_⟩
  have hm3 : w3.heap[w1.heap.size]? = some (.map es clock) := hF3.keep hm2 (fun h => h)
  have s1 : w.heap.size < w1.heap.size := heap_lt HB1.out
  have hm5 : w5.heap[w1.heap.size]? = some (.map es clock) := hF5.keep hm3 (by omega)
  have hF03 : Fr Non w w3 := (HF1.out.trans hF2 (fun _ _ h => h)).trans hF3 (fun _ _ h => h)
  refine ⟨⟨?_, ⟨ml, ⟨⟨es, clock, hm5, HM.out.2.1⟩, HM.out.1⟩, HM.out.2.2⟩, ?_⟩, hF03.trans hF5 (fun i hi e => by omega), ?_⟩
  · rw [hb5]; rfl
  · have hs2 := hF2.size
    exact ownsRow_fr hF5 ho3 (fun k hk e => by have := hn3 k hk; omega)
  · have hs2 := hF2.size
    rintro k (rfl | rfl | hk)
    · exact Nat.le_refl _
    · omega
    · have := hn3 k hk; omega
end Go.Proofs.Yticgkbpmaakkiaa

namespace Go.Proofs.Yticgkbpmaakkiaa
open Go.RowKit

def Kept (D0 : Dsk) (T : Int → Prop) (D : Dsk) : Prop := D.n = D0.n ∧ (∀ i, ¬ T i → D.at i = D0.at i) ∧ ∀ x ∈ D.pend, T x.1

theorem storeAll_off (i : Int) : ∀ (l : List (Int × Sec)) (D : Dsk), (∀ x ∈ l, x.1 ≠ i) → (D.storeAll l).at i = D.at i
  | [], _, _ => rfl
  | x :: r, D, h => by
    show ((D.store x.1 x.2).storeAll r).at i = _
    rw [storeAll_off i r _ (fun y hy => h y (List.mem_cons_of_mem _ hy)), store_at, if_neg (fun e => h x (List.mem_cons_self ..) e.symm)]
theorem restartTo_at (D : Dsk) (cs : List UInt8) (i : Int) (h : ∀ x ∈ D.pend, x.1 ≠ i) : ∀ k, (D.restartTo cs k).at i = D.at i
  | 0 => rfl
  | k + 1 => by
    unfold Dsk.restartTo
    split
    · rename_i x hx
      rw [store_at, if_neg (fun e => h x (List.mem_of_getElem? hx) e.symm)]
      exact restartTo_at D cs i h k
    · exact restartTo_at D cs i h k

theorem Kept.mono {D0 D : Dsk} {T T' : Int → Prop} (h : Kept D0 T D) (ht : ∀ i, T i → T' i) : Kept D0 T' D :=
  ⟨h.1, fun i hi => h.2.1 i (fun hh => hi (ht i hh)), fun x hx => ht _ (h.2.2 x hx)⟩

theorem Kept.act {D0 D : Dsk} {T : Int → Prop} (h : Kept D0 T D) (o : OpS) (cs : List UInt8) : Kept D0 (fun i => T i ∨ o.sec = i) (D.act o cs) := by
  have hm := h.mono (T' := fun i => T i ∨ o.sec = i) (fun _ h => .inl h)
  unfold Dsk.act
  split
  · unfold Dsk.wr
    split
    · exact hm
    split
    · exact hm
    split
    · exact hm
    · refine ⟨hm.1, hm.2.1, fun x hx => ?_⟩
      rcases List.mem_append.1 hx with hx | hx
      · exact hm.2.2 x hx
      · rw [List.mem_singleton.1 hx]; exact .inr rfl
  split
  · unfold Dsk.fl
    split
    · exact hm
    split
    · exact hm
    · obtain ⟨k1, k2, k3, k4, k5, k6⟩ := storeAll_keeps D.pend D.count
      refine ⟨k2.trans hm.1, fun i hi => ?_, fun x hx => by cases hx⟩
      have := storeAll_off i D.pend D.count (fun x hx e => hi (e ▸ hm.2.2 x hx))
      exact this.trans (hm.2.1 i hi)
  split
  · exact hm
  split
  · unfold Dsk.re
    split
    · exact hm
    · obtain ⟨k1, k2, k3, k4, k5, k6⟩ := restartTo_keeps D cs D.pend.length
      refine ⟨k2.trans hm.1, fun i hi => ?_, fun x hx => by cases hx⟩
      have := restartTo_at D cs i (fun x hx e => hi (e ▸ hm.2.2 x hx)) D.pend.length
      exact this.trans (hm.2.1 i hi)
  split
  · exact hm
  split
  · unfold Dsk.da
    split
    · exact hm
    split
    · exact hm
    · refine ⟨hm.1, fun i hi => ?_, fun x hx => ?_⟩
      · have : (D.damage o.sec o.at'.toNat o.first).at i = (D.store o.sec (xorAt (D.at o.sec) o.at'.toNat o.first)).at i := rfl
        rw [this, store_at, if_neg (fun e => hi (.inr e.symm))]
        exact hm.2.1 i hi
      · obtain ⟨y, hy, rfl⟩ := List.mem_map.1 hx
        have := hm.2.2 y hy
        unfold dmg
        split <;> exact this
  · exact hm

theorem Kept.acts {D0 : Dsk} : ∀ (os : List OpX) {D : Dsk} {T : Int → Prop}, Kept D0 T D → Kept D0 (fun i => T i ∨ ∃ x ∈ os, x.1.sec = i) (D.acts os)
  | [], D, T, h => h.mono (fun _ h => .inl h)
  | x :: r, D, T, h => ((h.act x.1 x.2.2).acts r).mono (fun i hi => by
    rcases hi with (hi | hi) | ⟨y, hy, e⟩
    · exact .inl hi
    · exact .inr ⟨x, List.mem_cons_self .., hi⟩
    · exact .inr ⟨y, List.mem_cons_of_mem _ hy, e⟩)

theorem fl_cases (D : Dsk) : D.fl.2 = 28 ∨ (D.fl.2 = 0 ∧ D.fl.1.pend = [] ∧ D.fl.1.down = false ∧ D.fl.1.n = D.n) := by
  unfold Dsk.fl
  split
  · exact .inl rfl
  split
  · exact .inl rfl
  · obtain ⟨k1, k2, k3, k4, k5, k6⟩ := storeAll_keeps D.pend D.count
    exact .inr ⟨rfl, rfl, k6.trans (show D.down = false from by simpa using ‹¬ D.down = true›), k2⟩
theorem fl_ok (D : Dsk) (h : Dok D) (hl : D.pend.length ≤ 49999) : Dok D.fl.1 := by
  have e : D.fl.1 = D.act ⟨1, 0, 0, 0, 0⟩ [] := rfl
  rw [e]
  exact (act_ok D _ _ h hl (by decide)).1

/-- The marks of the sectors that operations name. -/
def marks (N : Nat) (os : List OpX) : List Bool := (List.range N).map fun (i : Nat) => os.any fun x => decide (x.1.sec = (i : Int))
theorem marks_length (N : Nat) (os : List OpX) : (marks N os).length = N := by simp [marks]
theorem marks_nil (N : Nat) : marks N [] = List.replicate N false := by
  unfold marks
  apply List.ext_getElem
  · simp
  · intro i h1 h2; simp
theorem marks_in (N : Nat) (os : List OpX) (x : OpX) (j : Nat) (hj : x.1.sec = (j : Int)) : marks N (os ++ [x]) = (marks N os).set j true := by
  unfold marks
  apply List.ext_getElem
  · simp
  · intro i h1 h2
    simp only [List.getElem_map, List.getElem_range, List.getElem_set, List.any_append, List.any_cons, List.any_nil, Bool.or_false, hj]
    by_cases h : j = i
    · simp [h]
    · have : ¬ (j : Int) = (i : Int) := by omega
      simp [h, this]
theorem marks_out (N : Nat) (os : List OpX) (x : OpX) (hx : ¬ (0 ≤ x.1.sec ∧ x.1.sec < (N : Int))) : marks N (os ++ [x]) = marks N os := by
  unfold marks
  apply List.map_congr_left
  intro i hi
  have := List.mem_range.1 hi
  have h2 : ¬ x.1.sec = (i : Int) := by omega
  simp [List.any_append, h2]
theorem marks_get (N : Nat) (os : List OpX) (i : Nat) (hi : i < N) : (marks N os)[i]? = some (os.any fun x => decide (x.1.sec = (i : Int))) := by simp [marks, hi]

/-! ### two devices -/
structure Two (B : Nat) (w : World) (p m : Nat) (pv dv wv : Value) (D : Dsk) (p' m' : Nat) (pv' : Value) (D' : Dsk) : Prop where
  a : Both B w p m pv dv wv D
  b : DiskAt w p' m' pv' D'
  foot : ∀ k, Foot p' m' pv' k → B ≤ k
  dj : ∀ k, Foot p m pv k → ¬ Foot p' m' pv' k

theorem Two.non {B : Nat} {w w' : World} {p m p' m' : Nat} {pv dv wv pv' : Value} {D D' : Dsk} (h : Two B w p m pv dv wv D p' m' pv' D') (hF : Fr Non w w') : Two B w' p m pv dv wv D p' m' pv' D' :=
  ⟨h.a.non hF, h.b.fr hF (fun _ _ h => h), h.foot, h.dj⟩
theorem Two.put {B : Nat} {w : World} {p m p' m' g : Nat} {pv dv wv pv' : Value} {D D' : Dsk} {cs : Array Value} (h : Two B w p m pv dv wv D p' m' pv' D') (hg : w.heap[g]? = some (.cells cs 45)) (l : List Value) : Two B (w.setCells g 0 l) p m pv dv wv D p' m' pv' D' := by
  have hF : Fr (· = g) w (w.setCells g 0 l) := Fr.setCells (S := (· = g)) _ (fun _ => rfl) _ _ _ (Fr.refl _ _)
  exact ⟨h.a.put hg l, h.b.fr hF (fun k hk e => by subst e; exact h.b.no45 hg hk), h.foot, h.dj⟩
/-- The first device takes a step. -/
theorem Two.step {w0 w w' : World} {p m p' m' : Nat} {pv dv wv pv' : Value} {D D2 D' : Dsk} (h : Two w0.heap.size w p m pv dv wv D p' m' pv' D') (hF : Fr Non w0 w) {dv' wv' : Value} (hS : Step w w' p m pv D2) (hR : RefAt w' dv' wv' D2) (hD : Dok D2) :
    ∃ pv2, Two w0.heap.size w' p m pv2 dv' wv' D2 p' m' pv' D' ∧ Fr Non w0 w' := by
  obtain ⟨pv2, h1, h2, h3⟩ := hS
  have hb : DiskAt w' p' m' pv' D' := h.b.fr h2 (fun k hk e => h.dj k e hk)
  refine ⟨pv2, ⟨⟨h1, hR, hD, fun k hk => ?_⟩, hb, h.foot, fun k hk hk' => ?_⟩, hF.trans h2 (fun i hi hf => by have := h.a.foot i hf; omega)⟩
  · rcases hk with e | e | e
    · exact h.a.foot k (.inl e)
    · exact h.a.foot k (.inr (.inl e))
    · rcases h3 k e with q | q
      · exact h.a.foot k (.inr (.inr q))
      · exact Nat.le_trans hF.size q
  · rcases hk with e | e | e
    · exact h.dj k (.inl e) hk'
    · exact h.dj k (.inr (.inl e)) hk'
    · rcases h3 k e with q | q
      · exact h.dj k (.inr (.inr q)) hk'
      · have := foot_lt h.b hk'; omega
/-- A block of a kind that no device has. -/
theorem DiskAt.notOf {w : World} {p m : Nat} {pv : Value} {D : Dsk} (h : DiskAt w p m pv D) {k : Nat} {cs : Array Value} {t : TypeId} (hk : w.heap[k]? = some (.cells cs t)) (ht : t ≠ 78 ∧ t ≠ 82) : ¬ Foot p m pv k := by
  rintro (rfl | rfl | hk')
  · rw [h.hp] at hk; cases hk; exact ht.1 rfl
  · obtain ⟨l, hl, _⟩ := h.hm
    obtain ⟨es, c, hb, _⟩ := hl.ex
    rw [hb] at hk; cases hk
  · obtain ⟨cs', hc⟩ := Own.typed (show Own w 82 257 wcells pv D.pend from h.hv) hk'
    rw [hc] at hk; cases hk; exact ht.2 rfl

theorem info60 : (Try.prog.info? 60).map (fun i => (i.zero, i.size)) = some (some (.agg #[.int .i64 0, .int .i64 0, .int .i64 0, .int .u8 0, .int .u8 0, .slice none 0 0]), 6) := by kernel_rfl
theorem zero60 (w : World) : (zeroValue 60).run Try.prog w = .ok (.agg #[.int .i64 0, .int .i64 0, .int .i64 0, .int .u8 0, .int .u8 0, .slice none 0 0]) w := (zero_of_info info60).1 w
/-- make([]bool, n) -/
def boolC (l : List Bool) : Array Value := (l.map Value.bool).toArray
theorem boolC_get (l : List Bool) (i : Nat) (b : Bool) (h : l[i]? = some b) : (boolC l)[i]? = some (.bool b) := by simp [boolC, h]
theorem boolC_set (l : List Bool) (i : Nat) : (boolC l).setIfInBounds i (.bool true) = boolC (l.set i true) := by
  unfold boolC
  apply Array.ext'
  simp
theorem info4 : (Try.prog.info? 4).map (fun i => (i.zero, i.size, i.bytes)) = some (some (.bool false), 1, 1) := by kernel_rfl
theorem run_makeBool (w : World) (n : Nat) (hn : n ≤ 4096) : (Instr.makeSlice 34 (.int .i64 n) (.int .i64 n)).run Try.prog w = .ok (.slice (some ⟨w.heap.size, 0, none⟩) n n) (w.alloc (.cells (boolC (List.replicate n false)) 4)) := by
  obtain ⟨i, hi, hz, hs, hb⟩ := info_parts info4
  have := run_make (P := Try.prog) w 34 4 i _ Try.underlying34 hi hz .i64 .i64 n n (by omega) (by omega) (by rw [hb]; omega) (by omega)
  rw [this, hs]
  have e : madeCells (Value.bool false).cells ((n : Int).toNat * 1) = boolC (List.replicate n false) := by
    unfold madeCells boolC
    apply Array.ext'
    simp only [Array.toList_map, Array.toList_range, List.map_replicate]
    apply List.ext_getElem
    · simp
    · intro i h1 h2
      simp [Value.cells, Nat.mod_one]
  rw [e]
  simp
end Go.Proofs.Yticgkbpmaakkiaa
