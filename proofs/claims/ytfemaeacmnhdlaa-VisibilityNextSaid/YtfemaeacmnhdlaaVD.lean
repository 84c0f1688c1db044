/-
  known: the law's own instance.
-/
import Derived.Test.YtfemaeacmnhdlaaVC
import Derived.Deep.MidRow
namespace Go.Proofs.Ytfemaeacmnhdlaa
open Go.RowKit

theorem AtL_new {α : Type} {k : Nat} {enc : α → List Value} (hk : ∀ x, (enc x).length = k) (w : World) (l : List α) (t : TypeId) : AtL (w.alloc (.cells (l.flatMap enc).toArray t)) (some ⟨w.heap.size, 0, none⟩) k enc l :=
  .inr ⟨w.heap.size, 0, rfl, fun i x hx j u hu => by
    have h := rangeAt_of (heap_alloc_new w (.cells (l.flatMap enc).toArray t)) 0 (l.flatMap enc) (by simp)
    have := h (i * k + j) u (flat_get hk l i x hx j u hu)
    rwa [show 0 + (i * k + j) = 0 + i * k + j by omega] at this⟩

theorem rng_fr {w w' : World} {b o : Nat} {l : List Value} (hf : Fr Non w w') (h : w.rangeAt b o l) : w'.rangeAt b o l := fun j v hv => hf.cell (h j v hv) (fun h => h)

def k1 : Id := ⟨1 :: List.replicate 31 0, by simp⟩
def k2 : Id := ⟨2 :: List.replicate 31 0, by simp⟩
def k3 : Id := ⟨3 :: List.replicate 31 0, by simp⟩
def z16 : ByteKey 16 := ⟨List.replicate 16 0, by simp⟩
def row2 (b : Nat) : Row := ⟨k2, z16, 100, (none, 0, 0), some ⟨b, 0, none⟩, 1, [k1], zeroId⟩
def row3 (b : Nat) : Row := ⟨k3, z16, 130, (none, 0, 0), some ⟨b, 0, none⟩, 2, [k1, k2], zeroId⟩
theorem build31_1 (w : World) : (Instr.build 31 #[(0, .int .u8 1)]).run Try.prog w = .ok (.agg (idC k1).toArray) w := run_build w 31 _ _ (by kernel_rfl)
theorem build31_2 (w : World) : (Instr.build 31 #[(0, .int .u8 2)]).run Try.prog w = .ok (.agg (idC k2).toArray) w := run_build w 31 _ _ (by kernel_rfl)
theorem build31_3 (w : World) : (Instr.build 31 #[(0, .int .u8 3)]).run Try.prog w = .ok (.agg (idC k3).toArray) w := run_build w 31 _ _ (by kernel_rfl)
theorem build36_2 (w : World) (b : Nat) : (Instr.build 36 #[(0, .agg (idC k2).toArray), (2, .int .i64 100), (4, .slice (some ⟨b, 0, none⟩) 1 1)]).run Try.prog w = .ok (.agg (rowC (row2 b)).toArray) w := run_build w 36 _ _ (by kernel_rfl)
theorem build36_3 (w : World) (b : Nat) : (Instr.build 36 #[(0, .agg (idC k3).toArray), (2, .int .i64 130), (4, .slice (some ⟨b, 0, none⟩) 2 2)]).run Try.prog w = .ok (.agg (rowC (row3 b)).toArray) w := run_build w 36 _ _ (by kernel_rfl)
theorem buildSlice23_two (w : World) (x y : Id) : (Instr.buildSlice 23 2 #[(0, .agg (idC x).toArray), (1, .agg (idC y).toArray)]).run Try.prog w = .ok (.slice (some ⟨w.heap.size, 0, none⟩) 2 2) (w.alloc (.cells ([x, y].flatMap idC).toArray 31)) := by
  have := run_buildSlice_all (P := Try.prog) (w := w) (t := 23) (e := 31) (s := 32) (vs := [.agg (idC x).toArray, .agg (idC y).toArray]) Try.underlying23 sz31 (zero31 w) (by intro v hv; simp only [List.mem_cons, List.not_mem_nil, or_false] at hv; rcases hv with rfl | rfl <;> simp [Value.cells, idC_length]) (by simp)
  have e : catCells [.agg (idC x).toArray, .agg (idC y).toArray] = [x, y].flatMap idC := by simp [catCells, Value.cells]
  rw [e] at this
  exact this
theorem buildSlice22_two (w : World) (x y : Row) : (Instr.buildSlice 22 2 #[(0, .agg (rowC x).toArray), (1, .agg (rowC y).toArray)]).run Try.prog w = .ok (.slice (some ⟨w.heap.size, 0, none⟩) 2 2) (w.alloc (.cells ([x, y].flatMap rowC).toArray 36)) := by
  have := run_buildSlice_all (P := Try.prog) (w := w) (t := 22) (e := 36) (s := 83) (vs := [.agg (rowC x).toArray, .agg (rowC y).toArray]) Try.underlying22 sz36 (zero36 w) (by intro v hv; simp only [List.mem_cons, List.not_mem_nil, or_false] at hv; rcases hv with rfl | rfl <;> simp [Value.cells, rowC_length]) (by simp)
  have e : catCells [.agg (rowC x).toArray, .agg (rowC y).toArray] = [x, y].flatMap rowC := by simp [catCells, Value.cells]
  rw [e] at this
  exact this

theorem k12 : k1 ≠ k2 := by decide
theorem k13 : k1 ≠ k3 := by decide
theorem k23 : k2 ≠ k3 := by decide
theorem good23 (b b' : Nat) : Good [row2 b, row3 b'] := by
  refine ⟨by simp, ?_, ?_⟩
  · intro r hr
    simp only [List.mem_cons, List.not_mem_nil, or_false] at hr
    rcases hr with rfl | rfl
    · exact ⟨by simp [row2], by simp [row2], by simp [row2]⟩
    · exact ⟨by simp [row3], by simp [row3], by simp [row3]⟩
  · simp [row2, row3, k23]
theorem good3 (b : Nat) : Good [row3 b] := by
  refine ⟨by simp, ?_, by simp⟩
  intro r hr
  rw [List.mem_singleton.1 hr]
  exact ⟨by simp [row3], by simp [row3], by simp [row3]⟩

theorem rowsOf23_1 (b b' : Nat) : rowsOf [row2 b, row3 b'] k1 = none := by simp [rowsOf, row2, row3, k12.symm, k13.symm]
theorem rowsOf23_2 (b b' : Nat) : rowsOf [row2 b, row3 b'] k2 = some (row2 b) := by simp [rowsOf, row2]
theorem rowsOf23_3 (b b' : Nat) : rowsOf [row2 b, row3 b'] k3 = some (row3 b') := by simp [rowsOf, row2, row3, k23]
theorem rowsOf3_2 (b : Nat) : rowsOf [row3 b] k2 = none := by simp [rowsOf, row3, k23.symm]
theorem rowsOf3_3 (b : Nat) : rowsOf [row3 b] k3 = some (row3 b) := by simp [rowsOf, row3]

theorem shL_t {l : List Row} {g : List Id} {now : Int} {r : Row} : shL l g now r = true ↔ Sh (rowsOf l) (fun x => decide (x ∈ g)) now r.id := by unfold shL; exact shB_iff
theorem shL_f {l : List Row} {g : List Id} {now : Int} {r : Row} (h : ¬ Sh (rowsOf l) (fun x => decide (x ∈ g)) now r.id) : shL l g now r = false := by
  cases hs : shL l g now r with
  | false => rfl
  | true => exact absurd (shL_t.1 hs) h

theorem sh2_no (b b' : Nat) : ¬ Sh (rowsOf [row2 b, row3 b']) (fun x => decide (x ∈ ([] : List Id))) 2979 k2 := by
  intro h
  cases h with
  | root h1 h2 => rw [rowsOf23_2] at h1; cases h1; simp [row2] at h2
  | hole h1 h2 h3 h4 =>
    rw [rowsOf23_2] at h1; cases h1
    rcases h4 with h4 | h4
    · simp at h4
    · simp [row2] at h4
  | ans h1 h2 h3 _ =>
    rw [rowsOf23_2] at h1; cases h1
    simp only [row2, List.getLast?_singleton, Option.some.injEq] at h2
    subst h2
    rw [rowsOf23_1] at h3; cases h3
theorem sh3_no (b b' : Nat) : ¬ Sh (rowsOf [row2 b, row3 b']) (fun x => decide (x ∈ ([] : List Id))) 2979 k3 := by
  intro h
  cases h with
  | root h1 h2 => rw [rowsOf23_3] at h1; cases h1; simp [row3] at h2
  | hole h1 h2 h3 h4 =>
    rw [rowsOf23_3] at h1; cases h1
    simp only [row3, List.getLast?_cons_cons, List.getLast?_singleton, Option.some.injEq] at h2
    subst h2
    rw [rowsOf23_2] at h3; cases h3
  | ans h1 h2 h3 h4 =>
    rw [rowsOf23_3] at h1; cases h1
    simp only [row3, List.getLast?_cons_cons, List.getLast?_singleton, Option.some.injEq] at h2
    subst h2
    exact sh2_no b b' h4
theorem sh2_yes (b b' : Nat) : Sh (rowsOf [row2 b, row3 b']) (fun x => decide (x ∈ ([] : List Id))) 2980 k2 :=
  .hole (rowsOf23_2 b b') rfl (rowsOf23_1 b b') (.inr (by simp [row2]))
theorem sh3_yes (b b' : Nat) : Sh (rowsOf [row2 b, row3 b']) (fun x => decide (x ∈ ([] : List Id))) 2980 k3 :=
  .ans (rowsOf23_3 b b') rfl (rowsOf23_2 b b') (sh2_yes b b')
theorem sh3_lost (b : Nat) : Sh (rowsOf [row3 b]) (fun x => decide (x ∈ [k2])) 130 k3 :=
  .hole (rowsOf3_3 b) rfl (rowsOf3_2 b) (.inl (by simp))

theorem srt_one (x : Id) : srt [x] = [x] := by simp [srt]
theorem srt_23 : srt [k2, k3] = [k2, k3] := by
  unfold srt
  apply List.mergeSort_of_pairwise
  refine List.pairwise_cons.2 ⟨?_, List.pairwise_singleton _ _⟩
  intro y hy
  rw [List.mem_singleton.1 hy]
  decide

theorem held_k (w : World) (b b' b9 : Nat) (h : AtL w (some ⟨b9, 0, none⟩) 83 rowC [row2 b, row3 b']) (hr : RefsAt w [row2 b, row3 b']) :
    Calls Try.prog 53 #[.slice (some ⟨b9, 0, none⟩) 2 2, .slice none 0 0, .int .i64 2979] w fun e w' => ∃ a c, e = .returned (.tuple #[.slice a 2 c, .int .i64 0]) ∧ AtL w' a 32 idC [k2, k3] ∧ Fr Non w w' :=
  (Held_c w _ 2 [row2 b, row3 b'] none 0 [] 2979 (good23 b b') (by simp) h hr (.inl rfl)).mono fun e w' ⟨a, c, he, ho, hf⟩ => by
    have e1 : ([row2 b, row3 b'].filter fun r => !shL [row2 b, row3 b'] [] 2979 r) = [row2 b, row3 b'] := by
      simp only [List.filter_cons, List.filter_nil, shL_f (r := row2 b) (sh2_no b b'), shL_f (r := row3 b') (sh3_no b b'), Bool.not_false, if_true]
    rw [e1] at he ho
    have e2 : srt ([row2 b, row3 b'].map (·.id)) = [k2, k3] := srt_23
    rw [e2] at ho
    exact ⟨a, c, he, AtL.own elem31 ho, hf⟩
theorem shown_k (w : World) (b b' b9 : Nat) (h : AtL w (some ⟨b9, 0, none⟩) 83 rowC [row2 b, row3 b']) (hr : RefsAt w [row2 b, row3 b']) :
    Calls Try.prog 22 #[.slice (some ⟨b9, 0, none⟩) 2 2, .slice none 0 0, .int .i64 2980] w fun e w' => ∃ a c, e = .returned (.tuple #[.slice a 2 c, .int .i64 0]) ∧ AtL w' a 32 idC [k2, k3] ∧ Fr Non w w' :=
  (Shown_c w _ 2 [row2 b, row3 b'] none 0 [] 2980 (good23 b b') (by simp) h hr (.inl rfl)).mono fun e w' ⟨a, c, he, ho, hf⟩ => by
    have e1 : ([row2 b, row3 b'].filter fun r => shL [row2 b, row3 b'] [] 2980 r) = [row2 b, row3 b'] := by
      simp only [List.filter_cons, List.filter_nil, shL_t (r := row2 b).2 (sh2_yes b b'), shL_t (r := row3 b').2 (sh3_yes b b'), if_true]
    rw [e1] at he ho
    have e2 : srt ([row2 b, row3 b'].map (·.id)) = [k2, k3] := srt_23
    rw [e2] at ho
    exact ⟨a, c, he, AtL.own elem31 ho, hf⟩
theorem lost_k (w : World) (b b' b9 g : Nat) (h : AtL w (some ⟨b9, 0, none⟩) 83 rowC [row2 b, row3 b']) (hr : RefsAt w [row2 b, row3 b']) (hg : AtL w (some ⟨g, 0, none⟩) 32 idC [k2]) :
    Calls Try.prog 22 #[.slice (some ⟨b9, 83, none⟩) 1 1, .slice (some ⟨g, 0, none⟩) 1 1, .int .i64 130] w fun e w' => ∃ a c, e = .returned (.tuple #[.slice a 1 c, .int .i64 0]) ∧ AtL w' a 32 idC [k3] ∧ Fr Non w w' :=
  (Shown_c w _ 1 [row3 b'] (some ⟨g, 0, none⟩) 1 [k2] 130 (good3 b') (by simp) (by have := h.drop 1; simpa using this) (fun r hh => hr r (List.mem_cons_of_mem _ hh)) hg).mono fun e w' ⟨a, c, he, ho, hf⟩ => by
    have e1 : ([row3 b'].filter fun r => shL [row3 b'] [k2] 130 r) = [row3 b'] := by
      simp only [List.filter_cons, List.filter_nil, shL_t (r := row3 b').2 (sh3_lost b'), if_true]
    rw [e1] at he ho
    have e2 : srt ([row3 b'].map (·.id)) = [k3] := srt_one k3
    rw [e2] at ho
    exact ⟨a, c, he, AtL.own elem31 ho, hf⟩

theorem known_world (w : World) : ∃ w1 w2 w3 w4 w5 w6, w.alloc (.cells (idC zeroId).toArray 31) = w1 ∧ w1.alloc (.cells (idC zeroId).toArray 31) = w2 ∧ w2.alloc (.cells (idC zeroId).toArray 31) = w3 ∧
    w3.setCells w.heap.size 0 (idC k1) = w4 ∧ w4.setCells w1.heap.size 0 (idC k2) = w5 ∧ w5.setCells w2.heap.size 0 (idC k3) = w6 ∧
    w3.there w.heap.size 0 32 ∧ w4.there w1.heap.size 0 32 ∧ w5.there w2.heap.size 0 32 ∧
    w6.rangeAt w.heap.size 0 (idC k1) ∧ w6.rangeAt w1.heap.size 0 (idC k2) ∧ w6.rangeAt w2.heap.size 0 (idC k3) ∧ Fr Non w w6 := by
  obtain ⟨w1, hw1⟩ : ∃ w1, w.alloc (.cells (idC zeroId).toArray 31) = w1 := ⟨_, rfl⟩
  obtain ⟨w2, hw2⟩ : ∃ w2, w1.alloc (.cells (idC zeroId).toArray 31) = w2 := ⟨_, rfl⟩
  obtain ⟨w3, hw3⟩ : ∃ w3, w2.alloc (.cells (idC zeroId).toArray 31) = w3 := ⟨_, rfl⟩
  refine ⟨w1, w2, w3, _, _, _, hw1, hw2, hw3, rfl, rfl, rfl, ?_⟩
  have f1 : Fr Non w w1 := hw1 ▸ (Fr.refl Non w).alloc _
  have f2 : Fr Non w1 w2 := hw2 ▸ (Fr.refl Non w1).alloc _
  have f3 : Fr Non w2 w3 := hw3 ▸ (Fr.refl Non w2).alloc _
  have s1 : w1.heap.size = w.heap.size + 1 := hw1 ▸ World.size_alloc w _
  have s2 : w2.heap.size = w1.heap.size + 1 := hw2 ▸ World.size_alloc w1 _
  have n0 : ∀ i, ¬ Non i := fun _ h => h
  have h1 := (f2.trans f3 (fun _ _ h => h)).keep (hw1 ▸ heap_alloc_new w (.cells (idC zeroId).toArray 31) : w1.heap[w.heap.size]? = _) (n0 _)
  have h2 := f3.keep (hw2 ▸ heap_alloc_new w1 (.cells (idC zeroId).toArray 31) : w2.heap[w1.heap.size]? = _) (n0 _)
  have h3 : w3.heap[w2.heap.size]? = _ := hw3 ▸ heap_alloc_new w2 (.cells (idC zeroId).toArray 31)
  have t1 := there_of h1 0 32 (by simp [idC_length])
  have t2 := World.there_setCells (there_of h2 0 32 (by simp [idC_length])) w.heap.size 0 (idC k1)
  have t3 := World.there_setCells (World.there_setCells (there_of h3 0 32 (by simp [idC_length])) w.heap.size 0 (idC k1)) w1.heap.size 0 (idC k2)
  have r1 := World.rangeAt_setCells_apart (World.rangeAt_setCells_apart (World.rangeAt_setCells_same _ _ _ (idC k1) (by rw [idC_length]; exact t1)) w1.heap.size 0 (idC k2) (.inl (by omega))) w2.heap.size 0 (idC k3) (.inl (by omega))
  have r2 := World.rangeAt_setCells_apart (World.rangeAt_setCells_same _ _ _ (idC k2) (by rw [idC_length]; exact t2)) w2.heap.size 0 (idC k3) (.inl (by omega))
  have r3 := World.rangeAt_setCells_same _ _ _ (idC k3) (by rw [idC_length]; exact t3)
  exact ⟨t1, t2, t3, r1, r2, r3, Fr.setCells _ (fun h => by omega) _ _ _ (Fr.setCells _ (fun h => by omega) _ _ _ (Fr.setCells _ (fun h => by omega) _ _ _ ((f1.trans f2 (fun _ _ h => h)).trans f3 (fun _ _ h => h))))⟩

theorem eq_new (w : World) (a : Option Addr) (c : Nat) (l : List Id) (n : Nat) (hn : n = l.length) (hl : n ≤ 1000000) (h : AtL w a 32 idC l) :
    Calls Try.prog 49 #[.slice a n c, .slice (some ⟨w.heap.size, 0, none⟩) n n] (w.alloc (.cells (l.flatMap idC).toArray 31)) fun e w' => e = .returned (.bool true) ∧ Fr Non w w' := by
  subst hn
  have hf : Fr Non w (w.alloc (.cells (l.flatMap idC).toArray 31)) := (Fr.refl _ w).alloc _
  refine (equal_c _ a c l _ l.length l hl (h.non hf) (AtL_new idC_length w l 31)).mono ?_
  rintro e w' ⟨rfl, h2⟩
  exact ⟨by simp, hf.trans h2 (fun _ _ h => h)⟩

set_option maxRecDepth 100000 in
set_option maxHeartbeats 400000 in
theorem known_c (w : World) : Calls Try.prog 19 #[] w fun e w' => e = .returned (.bool true) ∧ Fr Non w w' := by
  obtain ⟨w1, w2, w3, w4, w5, w6, hw1, hw2, hw3, hw4, hw5, hw6, ht1, ht2, ht3, hi1, hi2, hi3, hF6⟩ := known_world w
  have hw7 : ∃ w7, w6.alloc (.cells (idC k1).toArray 31) = w7 := ⟨_, rfl⟩
  obtain ⟨w7, hw7⟩ := hw7
  have hw8 : ∃ w8, w7.alloc (.cells ([k1, k2].flatMap idC).toArray 31) = w8 := ⟨_, rfl⟩
  obtain ⟨w8, hw8⟩ := hw8
  have hw9 : ∃ w9, w8.alloc (.cells ([row2 w6.heap.size, row3 w7.heap.size].flatMap rowC).toArray 36) = w9 := ⟨_, rfl⟩
  obtain ⟨w9, hw9⟩ := hw9
  have hF67 : Fr Non w6 w7 := hw7 ▸ (Fr.refl Non w6).alloc _
  have hF78 : Fr Non w7 w8 := hw8 ▸ (Fr.refl Non w7).alloc _
  have hF89 : Fr Non w8 w9 := hw9 ▸ (Fr.refl Non w8).alloc _
  have hrows : AtL w9 (some ⟨w8.heap.size, 0, none⟩) 83 rowC [row2 w6.heap.size, row3 w7.heap.size] := hw9 ▸ AtL_new rowC_length w8 [row2 w6.heap.size, row3 w7.heap.size] 36
  have hr2 : AtL w7 (some ⟨w6.heap.size, 0, none⟩) 32 idC [k1] := by have := AtL_new idC_length w6 [k1] 31; rw [show [k1].flatMap idC = idC k1 by simp, hw7] at this; exact this
  have hr3 : AtL w8 (some ⟨w7.heap.size, 0, none⟩) 32 idC [k1, k2] := hw8 ▸ AtL_new idC_length w7 [k1, k2] 31
  have hrefs : RefsAt w9 [row2 w6.heap.size, row3 w7.heap.size] := by
    intro r hr
    simp only [List.mem_cons, List.not_mem_nil, or_false] at hr
    rcases hr with rfl | rfl
    · exact (hr2.non hF78).non hF89
    · exact hr3.non hF89
  have HF9 := Lib.hid (((hF6.trans hF67 (fun _ _ h => h)).trans hF78 (fun _ _ h => h)).trans hF89 (fun _ _ h => h))
  have HF69 := Lib.hid ((hF67.trans hF78 (fun _ _ h => h)).trans hF89 (fun _ _ h => h))
  have HI1 := Lib.hid hi1
  have HI2 := Lib.hid hi2
  have HI3 := Lib.hid hi3
  have HI17 := Lib.hid (rng_fr hF67 hi1)
  have HI27 := Lib.hid (rng_fr hF67 hi2)
  have HI37 := Lib.hid (rng_fr hF67 hi3)
  have HT1 := Lib.hid ht1
  have HT2 := Lib.hid ht2
  have HT3 := Lib.hid ht3
  have HR := Lib.hid hrows
  have HRF := Lib.hid hrefs
  obtain ⟨b1, hb1⟩ : ∃ b, w.heap.size = b := ⟨_, rfl⟩
  obtain ⟨b2, hb2⟩ : ∃ b, w1.heap.size = b := ⟨_, rfl⟩
  obtain ⟨b3, hb3⟩ : ∃ b, w2.heap.size = b := ⟨_, rfl⟩
  obtain ⟨b9, hb9⟩ : ∃ b, w8.heap.size = b := ⟨_, rfl⟩
  rw [hb1] at HT1 HI1 HI17 hw4
  rw [hb2] at HT2 HI2 HI27 hw5
  rw [hb3] at HT3 HI3 HI37 hw6
  rw [hb9] at HR
  have HH := Lib.hid (held_k w9 _ _ b9 HR.out HRF.out)
  clear hi1 hi2 hi3 ht1 ht2 ht3 hrows hrefs hr2 hr3 hF6 hF67 hF78 hF89
  go_enter Try.func19, Try.ntmps19
  go_wp2_with (first
    | (guard_target =~ wpList _ _ _ (⟨some 11, Op.build 31 _, _, _, _, _⟩ :: _) _ _; refine wl rfl (r_build (vs := [(0, .int .u8 1)]) rfl rfl (build31_1 _)) ?_; simp only [Act.put, List.setIfInBounds_toArray, List.set_cons_zero, List.set_cons_succ])
    | (guard_target =~ wpList _ _ _ (⟨some 12, Op.build 31 _, _, _, _, _⟩ :: _) _ _; refine wl rfl (r_build (vs := [(0, .int .u8 2)]) rfl rfl (build31_2 _)) ?_; simp only [Act.put, List.setIfInBounds_toArray, List.set_cons_zero, List.set_cons_succ])
    | (guard_target =~ wpList _ _ _ (⟨some 13, Op.build 31 _, _, _, _, _⟩ :: _) _ _; refine wl rfl (r_build (vs := [(0, .int .u8 3)]) rfl rfl (build31_3 _)) ?_; simp only [Act.put, List.setIfInBounds_toArray, List.set_cons_zero, List.set_cons_succ])
    | (guard_target =~ wpList _ _ _ (⟨some 1, Op.alloc 31, _, _, _, _⟩ :: _) _ _; refine wl rfl (r_allocA rfl (zero31 _)) ?_; rw [hw1, hb1]; simp only [Act.put, List.setIfInBounds_toArray, List.set_cons_zero, List.set_cons_succ])
    | (guard_target =~ wpList _ _ _ (⟨some 2, Op.alloc 31, _, _, _, _⟩ :: _) _ _; refine wl rfl (r_allocA rfl (zero31 _)) ?_; rw [hw2, hb2]; simp only [Act.put, List.setIfInBounds_toArray, List.set_cons_zero, List.set_cons_succ])
    | (guard_target =~ wpList _ _ _ (⟨some 3, Op.alloc 31, _, _, _, _⟩ :: _) _ _; refine wl rfl (r_allocA rfl (zero31 _)) ?_; rw [hw3, hb3]; simp only [Act.put, List.setIfInBounds_toArray, List.set_cons_zero, List.set_cons_succ])
    | (guard_target =~ wpList _ _ _ (⟨_, Op.store 31 (Operand.tmp 1) _, _, _, _, _⟩ :: _) _ _; refine wu rfl (r_store (b := b1) (i := 0) (cs := idC k1) rfl rfl rfl (by rw [idC_length]; exact HT1.out) (by rw [sz31, idC_length]) (idC_one k1)) ?_; rw [hw4]; simp only [Act.put, List.setIfInBounds_toArray, List.set_cons_zero, List.set_cons_succ])
    | (guard_target =~ wpList _ _ _ (⟨_, Op.store 31 (Operand.tmp 2) _, _, _, _, _⟩ :: _) _ _; refine wu rfl (r_store (b := b2) (i := 0) (cs := idC k2) rfl rfl rfl (by rw [idC_length]; exact HT2.out) (by rw [sz31, idC_length]) (idC_one k2)) ?_; rw [hw5]; simp only [Act.put, List.setIfInBounds_toArray, List.set_cons_zero, List.set_cons_succ])
    | (guard_target =~ wpList _ _ _ (⟨_, Op.store 31 (Operand.tmp 3) _, _, _, _, _⟩ :: _) _ _; refine wu rfl (r_store (b := b3) (i := 0) (cs := idC k3) rfl rfl rfl (by rw [idC_length]; exact HT3.out) (by rw [sz31, idC_length]) (idC_one k3)) ?_; rw [hw6]; simp only [Act.put, List.setIfInBounds_toArray, List.set_cons_zero, List.set_cons_succ])
    | (guard_target =~ wpList _ _ _ (⟨some 14, Op.load 31 _, _, _, _, _⟩ :: _) _ _; refine wl rfl (r_load (b := b2) (i := 0) rfl rfl HI2.out Try.underlying31 rfl (by rw [sz31, idC_length])) ?_; simp only [Act.put, List.setIfInBounds_toArray, List.set_cons_zero, List.set_cons_succ])
    | (guard_target =~ wpList _ _ _ (⟨some 15, Op.load 31 _, _, _, _, _⟩ :: _) _ _; refine wl rfl (r_load (b := b1) (i := 0) rfl rfl HI1.out Try.underlying31 rfl (by rw [sz31, idC_length])) ?_; simp only [Act.put, List.setIfInBounds_toArray, List.set_cons_zero, List.set_cons_succ])
    | (guard_target =~ wpList _ _ _ (⟨some 16, Op.buildSlice _ _ _, _, _, _, _⟩ :: _) _ _; refine wl rfl (r_buildSlice (vs := [(0, .agg (idC k1).toArray)]) rfl rfl (buildSlice23_one w6 k1)) ?_; rw [hw7]; simp only [Act.put, List.setIfInBounds_toArray, List.set_cons_zero, List.set_cons_succ])
    | (guard_target =~ wpList _ _ _ (⟨some 17, Op.build 36 _, _, _, _, _⟩ :: _) _ _; refine wl rfl (r_build (vs := [(0, .agg (idC k2).toArray), (2, .int .i64 100), (4, .slice (some ⟨w6.heap.size, 0, none⟩) 1 1)]) rfl rfl (build36_2 _ _)) ?_; simp only [Act.put, List.setIfInBounds_toArray, List.set_cons_zero, List.set_cons_succ])
    | (guard_target =~ wpList _ _ _ (⟨some 18, Op.load 31 _, _, _, _, _⟩ :: _) _ _; refine wl rfl (r_load (b := b3) (i := 0) rfl rfl HI37.out Try.underlying31 rfl (by rw [sz31, idC_length])) ?_; simp only [Act.put, List.setIfInBounds_toArray, List.set_cons_zero, List.set_cons_succ])
    | (guard_target =~ wpList _ _ _ (⟨some 19, Op.load 31 _, _, _, _, _⟩ :: _) _ _; refine wl rfl (r_load (b := b1) (i := 0) rfl rfl HI17.out Try.underlying31 rfl (by rw [sz31, idC_length])) ?_; simp only [Act.put, List.setIfInBounds_toArray, List.set_cons_zero, List.set_cons_succ])
    | (guard_target =~ wpList _ _ _ (⟨some 20, Op.load 31 _, _, _, _, _⟩ :: _) _ _; refine wl rfl (r_load (b := b2) (i := 0) rfl rfl HI27.out Try.underlying31 rfl (by rw [sz31, idC_length])) ?_; simp only [Act.put, List.setIfInBounds_toArray, List.set_cons_zero, List.set_cons_succ])
    | (guard_target =~ wpList _ _ _ (⟨some 21, Op.buildSlice _ _ _, _, _, _, _⟩ :: _) _ _; refine wl rfl (r_buildSlice (vs := [(0, .agg (idC k1).toArray), (1, .agg (idC k2).toArray)]) rfl rfl (buildSlice23_two w7 k1 k2)) ?_; rw [hw8]; simp only [Act.put, List.setIfInBounds_toArray, List.set_cons_zero, List.set_cons_succ])
    | (guard_target =~ wpList _ _ _ (⟨some 22, Op.build 36 _, _, _, _, _⟩ :: _) _ _; refine wl rfl (r_build (vs := [(0, .agg (idC k3).toArray), (2, .int .i64 130), (4, .slice (some ⟨w7.heap.size, 0, none⟩) 2 2)]) rfl rfl (build36_3 _ _)) ?_; simp only [Act.put, List.setIfInBounds_toArray, List.set_cons_zero, List.set_cons_succ])
    | (guard_target =~ wpList _ _ _ (⟨some 23, Op.buildSlice _ _ _, _, _, _, _⟩ :: _) _ _; refine wl rfl (r_buildSlice (vs := [(0, .agg (rowC (row2 w6.heap.size)).toArray), (1, .agg (rowC (row3 w7.heap.size)).toArray)]) rfl rfl (buildSlice22_two w8 _ _)) ?_; rw [hw9, hb9]; simp only [Act.put, List.setIfInBounds_toArray, List.set_cons_zero, List.set_cons_succ])
    | (go_at_call 53; refine HH.out.mono ?_; rintro e w10 ⟨a10, c10, rfl, hA, hF⟩; have HA10 := Lib.hid hA; have HF10 := Lib.hid hF; have HH2 := Lib.hid (shown_k w10 _ _ b9 (HR.out.non hF) (HRF.out.non hF)); clear hA hF)
    | (go_at_call 22; refine HH2.out.mono ?_; rintro e w11 ⟨a11, c11, rfl, hA, hF⟩; have HA11 := Lib.hid hA; have HF11 := Lib.hid hF; clear hA hF)
    | fail)
  have HF911 := Lib.hid (HF10.out.trans HF11.out (fun _ _ h => h))
  have HF611 := Lib.hid (HF69.out.trans HF911.out (fun _ _ h => h))
  have HI211 := Lib.hid (rng_fr HF611.out HI2.out)
  have hg := AtL_new idC_length w11.drew [k2] 31
  rw [show [k2].flatMap idC = idC k2 by simp] at hg
  have hfd : Fr Non w9 (w11.drew.alloc (.cells (idC k2).toArray 31)) := (HF911.out.drew).alloc _
  have HS3 := Lib.hid (lost_k _ _ _ b9 _ (HR.out.non hfd) (HRF.out.non hfd) hg)
  clear hg hfd
  refine rc (fun W : World => Fr Non w11 W) 4 (by kernel_rfl) ?_
  have hS : (fun W : World => Fr Non w11 W) w11.drew := (Fr.refl Non w11).drew
  refine tp (i := 0) (v := .slice (some ⟨b9, 0, none⟩) 2 2) rfl (by kernel_rfl) (fun _ _ _ h => h) rfl (fun W0 => r_move rfl rfl) (.inr hS) ?_
  simp only [Act.put, List.setIfInBounds_toArray, List.set_cons_zero, List.set_cons_succ]
  refine tp (i := 1) (v := .slice (some ⟨b9, 83, none⟩) 1 1) rfl (by kernel_rfl) (fun _ _ _ h => h) rfl (fun W0 => by unfold RunV; go_simp) (.inr hS) ?_
  simp only [Act.put, List.setIfInBounds_toArray, List.set_cons_zero, List.set_cons_succ]
  refine tc (i := 2) (v := .agg (idC k2).toArray) rfl 8 (by kernel_rfl) (fun _ _ _ h => h) rfl (fun W0 hw => r_load (b := b2) (i := 0) rfl rfl (rng_fr hw HI211.out) Try.underlying31 rfl (by rw [sz31, idC_length])) hS ?_
  simp only [Act.put, List.setIfInBounds_toArray, List.set_cons_zero, List.set_cons_succ]
  refine oc3 (i := 3) rfl (by kernel_rfl) rfl (w' := w11.drew.alloc (.cells (idC k2).toArray 31)) (((Fr.refl Non w11).drew).alloc _) (r_buildSlice (vs := [(0, .agg (idC k2).toArray)]) rfl rfl (buildSlice23_one w11.drew k2)) ?_
  simp only [Act.put, List.setIfInBounds_toArray, List.set_cons_zero, List.set_cons_succ]
  refine oc4 (i := 4) rfl (by kernel_rfl) rfl (by kernel_rfl) ?_
  unfold Oper.wp
  go_simp
  refine (HS3.out).mono ?_
  rintro e w12 ⟨a12, c12, rfl, hA12, hF12⟩
  have HA12 := Lib.hid hA12
  have HF12 := Lib.hid hF12
  clear hA12 hF12
  simp only [Act.put, List.setIfInBounds_toArray, List.set_cons_zero, List.set_cons_succ]
  refine tp (i := 5) (v := .tuple #[.slice a12 1 c12, .int .i64 0]) rfl (by kernel_rfl) (fun _ _ _ h => h) rfl (fun W0 => r_move rfl rfl) (.inl (by kernel_rfl)) ?_
  simp only [Act.put, List.setIfInBounds_toArray, List.set_cons_zero, List.set_cons_succ]
  refine tp (i := 6) (v := .slice a12 1 c12) rfl (by kernel_rfl) (fun _ _ _ h => h) rfl (fun W0 => by unfold RunV; go_simp) (.inl (by kernel_rfl)) ?_
  simp only [Act.put, List.setIfInBounds_toArray, List.set_cons_zero, List.set_cons_succ]
  refine tp (i := 7) (v := .int .i64 0) rfl (by kernel_rfl) (fun _ _ _ h => h) rfl (fun W0 => by unfold RunV; go_simp) (.inl (by kernel_rfl)) ?_
  simp only [Act.put, List.setIfInBounds_toArray, List.set_cons_zero, List.set_cons_succ]
  refine tp (i := 8) (v := .slice a12 1 c12) rfl (by kernel_rfl) (fun _ _ _ h => h) rfl (fun W0 => r_assign rfl rfl) (.inl (by kernel_rfl)) ?_
  simp only [Act.put, List.setIfInBounds_toArray, List.set_cons_zero, List.set_cons_succ]
  refine tp (i := 9) (v := .int .i64 0) rfl (by kernel_rfl) (fun _ _ _ h => h) rfl (fun W0 => r_assign rfl rfl) (.inl (by kernel_rfl)) ?_
  simp only [Act.put, List.setIfInBounds_toArray, List.set_cons_zero, List.set_cons_succ]
  refine dc (by kernel_rfl) ?_
  have hF1112 : Fr Non w11 w12 := (((Fr.refl Non w11).drew).alloc _).trans HF12.out (fun _ _ h => h)
  have HA10b := Lib.hid ((HA10.out.non HF11.out).non hF1112)
  have HA11b := Lib.hid (HA11.out.non hF1112)
  have HF612 := Lib.hid (HF611.out.trans hF1112 (fun _ _ h => h))
  have HI212 := Lib.hid (rng_fr HF612.out HI2.out)
  have HI312 := Lib.hid (rng_fr HF612.out HI3.out)
  have HE1 := Lib.hid (eq_new w12 a10 c10 [k2, k3] 2 rfl (by omega) HA10b.out)
  clear hF1112
  go_wp2_with (first
    | (guard_target =~ wpList _ _ _ (⟨some 46, Op.load 31 _, _, _, _, _⟩ :: _) _ _; refine wlg rfl (r_load (b := b2) (i := 0) rfl rfl HI212.out Try.underlying31 rfl (by rw [sz31, idC_length])) ?_; simp only [Act.put, List.setIfInBounds_toArray, List.set_cons_zero, List.set_cons_succ])
    | (guard_target =~ wpList _ _ _ (⟨some 47, Op.load 31 _, _, _, _, _⟩ :: _) _ _; refine wlg rfl (r_load (b := b3) (i := 0) rfl rfl HI312.out Try.underlying31 rfl (by rw [sz31, idC_length])) ?_; simp only [Act.put, List.setIfInBounds_toArray, List.set_cons_zero, List.set_cons_succ])
    | (guard_target =~ wpList _ _ _ (⟨some 48, Op.buildSlice _ _ _, _, _, _, _⟩ :: _) _ _; refine wlg rfl (r_buildSlice (vs := [(0, .agg (idC k2).toArray), (1, .agg (idC k3).toArray)]) rfl rfl (buildSlice23_two w12 k2 k3)) ?_; simp only [Act.put, List.setIfInBounds_toArray, List.set_cons_zero, List.set_cons_succ])
    | fail)
  refine HE1.out.mono ?_
  rintro e w13 ⟨rfl, hF13⟩
  have HI213 := Lib.hid (rng_fr hF13 HI212.out)
  have HI313 := Lib.hid (rng_fr hF13 HI312.out)
  have HE2 := Lib.hid (eq_new w13 a11 c11 [k2, k3] 2 rfl (by omega) (HA11b.out.non hF13))
  have HF13 := Lib.hid hF13
  clear hF13
  go_wp2_with (first
    | (guard_target =~ wpList _ _ _ (⟨some 57, Op.load 31 _, _, _, _, _⟩ :: _) _ _; refine wlg rfl (r_load (b := b2) (i := 0) rfl rfl HI213.out Try.underlying31 rfl (by rw [sz31, idC_length])) ?_; simp only [Act.put, List.setIfInBounds_toArray, List.set_cons_zero, List.set_cons_succ])
    | (guard_target =~ wpList _ _ _ (⟨some 58, Op.load 31 _, _, _, _, _⟩ :: _) _ _; refine wlg rfl (r_load (b := b3) (i := 0) rfl rfl HI313.out Try.underlying31 rfl (by rw [sz31, idC_length])) ?_; simp only [Act.put, List.setIfInBounds_toArray, List.set_cons_zero, List.set_cons_succ])
    | (guard_target =~ wpList _ _ _ (⟨some 59, Op.buildSlice _ _ _, _, _, _, _⟩ :: _) _ _; refine wlg rfl (r_buildSlice (vs := [(0, .agg (idC k2).toArray), (1, .agg (idC k3).toArray)]) rfl rfl (buildSlice23_two w13 k2 k3)) ?_; simp only [Act.put, List.setIfInBounds_toArray, List.set_cons_zero, List.set_cons_succ])
    | fail)
  refine HE2.out.mono ?_
  rintro e w14 ⟨rfl, hF14⟩
  have HI314 := Lib.hid (rng_fr hF14 HI313.out)
  have he3 := eq_new w14 a12 c12 [k3] 1 rfl (by omega) ((HA12.out.non HF13.out).non hF14)
  rw [show [k3].flatMap idC = idC k3 by simp] at he3
  have HE3 := Lib.hid he3
  have HF14 := Lib.hid hF14
  clear hF14 he3
  go_wp2_with (first
    | (guard_target =~ wpList _ _ _ (⟨some 68, Op.load 31 _, _, _, _, _⟩ :: _) _ _; refine wlg rfl (r_load (b := b3) (i := 0) rfl rfl HI314.out Try.underlying31 rfl (by rw [sz31, idC_length])) ?_; simp only [Act.put, List.setIfInBounds_toArray, List.set_cons_zero, List.set_cons_succ])
    | (guard_target =~ wpList _ _ _ (⟨some 69, Op.buildSlice _ _ _, _, _, _, _⟩ :: _) _ _; refine wlg rfl (r_buildSlice (vs := [(0, .agg (idC k3).toArray)]) rfl rfl (buildSlice23_one w14 k3)) ?_; simp only [Act.put, List.setIfInBounds_toArray, List.set_cons_zero, List.set_cons_succ])
    | fail)
  refine HE3.out.mono ?_
  rintro e w15 ⟨rfl, hF15⟩
  have HF15 := Lib.hid hF15
  clear hF15
  go_wp2
  go_ret
  exact ⟨rfl, HF9.out.trans (HF911.out.trans ((((Fr.refl Non w11).drew.alloc _).trans HF12.out (fun _ _ h => h)).trans (HF13.out.trans (HF14.out.trans HF15.out (fun _ _ h => h)) (fun _ _ h => h)) (fun _ _ h => h)) (fun _ _ h => h)) (fun _ _ h => h)⟩
end Go.Proofs.Ytfemaeacmnhdlaa
