/-
  ids: the identities of rows, sorted. Shown, Held.
-/
import Derived.Test.YtfemaeacmnhdlaaVB
namespace Go.Proofs.Ytfemaeacmnhdlaa
open Go.RowKit


theorem buildSlice23_one (w : World) (x : Id) : (Instr.buildSlice 23 1 #[(0, .agg (idC x).toArray)]).run Try.prog w = .ok (.slice (some ⟨w.heap.size, 0, none⟩) 1 1) (w.alloc (.cells (idC x).toArray 31)) := by
  have := run_buildSlice_all (P := Try.prog) (w := w) (t := 23) (e := 31) (s := 32) (vs := [.agg (idC x).toArray]) Try.underlying23 sz31 (zero31 w) (by intro v hv; rw [List.mem_singleton.1 hv]; simp [Value.cells, idC_length]) (by simp)
  have e : catCells [.agg (idC x).toArray] = idC x := by simp [catCells, Value.cells]
  rw [e] at this
  exact this

theorem put_id {w wr : World} {v : Value} {ys : List Id} (x : Id) (hF : Fr Non w wr) (hy : Own wr 31 32 idC v ys) (hyb : ∀ b, v.ownBlock = some b → w.heap.size ≤ b) (hl : ys.length ≤ 4096) :
    ∃ b cap w', (Builtin.append_ #[23, 23] 23 #[v, .slice (some ⟨wr.heap.size, 0, none⟩) 1 1]).run Try.prog (wr.alloc (.cells (idC x).toArray 31)) = .ok (.slice (some ⟨b, 0, none⟩) (ys.length + 1) cap) w' ∧
      Own w' 31 32 idC (.slice (some ⟨b, 0, none⟩) (ys.length + 1) cap) (ys ++ [x]) ∧ w.heap.size ≤ b ∧ Fr Non w w' := by
  have hF1 : Fr Non wr (wr.alloc (.cells (idC x).toArray 31)) := (Fr.refl _ wr).alloc _
  obtain ⟨b, cap, w', h1, h2, h3, h4, h5⟩ := run_append_one elem31 (t := 23) (ty := 23) Try.underlying23 (hy.fr hF1 (fun _ _ h => h)) (g := wr.heap.size) (x := x) (heap_alloc_new wr _) (by unfold maxLen; omega) (by omega)
  have hF2 : Fr (fun k => v.ownBlock = some k) (wr.alloc (.cells (idC x).toArray 31)) w' := (Fr.refl _ _).grown h3 (fun k hk _ => hk)
  have hF3 : Fr (fun k => v.ownBlock = some k) wr w' := (hF1.mono (fun _ _ h => h.elim)).trans hF2 (fun _ _ e => e)
  refine ⟨b, cap, w', h1, h2, ?_, hF.trans hF3 (fun i hi e => by have := hyb i e; omega)⟩
  rcases h4 with h | h
  · exact hyb b h
  · have := hF.size; simp at h; omega

def IdsTo (w w' : World) (e : Ending) (l : List Row) : Prop := ∃ a c, e = .returned (.slice a l.length c) ∧ Own w' 31 32 idC (.slice a l.length c) (srt (l.map (·.id))) ∧ Fr Non w w'

set_option maxRecDepth 100000 in
set_option maxHeartbeats 1000000 in
theorem ids_c (w : World) (a : Option Addr) (cap : Nat) (l : List Row) (hl : l.length ≤ 4096) (h : AtL w a 83 rowC l) :
    Calls Try.prog 55 #[.slice a l.length cap] w fun e w' => IdsTo w w' e l := by
  have HL := Lib.hid hl
  have H := Lib.hid h
  clear hl h
  go_enter Try.func55, Try.ntmps55
  go_wp2_with fail
  go_loopw [3, 8] (fun v i wr => ∃ k : Nat, i = .int .i64 k ∧ k ≤ l.length ∧ Own wr 31 32 idC v ((l.take k).map (·.id)) ∧ (∀ b, v.ownBlock = some b → w.heap.size ≤ b) ∧ Fr Non w wr) (fun _ i _ => l.length - (intOf i).toNat)
  case atStart => exact ⟨0, rfl, Nat.zero_le _, Own.nil _ _ _ _, (fun b h => by cases h), Fr.refl _ _⟩
  case round =>
    obtain ⟨k, rfl, hk, hy, hyb, hF⟩ := hrel
    obtain ⟨ys, hys⟩ : ∃ ys, ys = (l.take k).map (·.id) := ⟨_, rfl⟩
    rw [← hys] at hy
    have hyl : ys.length ≤ 4096 := by rw [hys, List.length_map, List.length_take]; have := HL.out; omega
    have HYS := Lib.hid hys
    have HYL := Lib.hid hyl
    have HY := Lib.hid hy
    have HB := Lib.hid hyb
    have HF := Lib.hid hF
    clear hy hyb hF hys hyl
    obtain ⟨ya, yc, rfl, -, -, -⟩ := Own.shape HY.out
    by_cases hlt : k < l.length
    · obtain ⟨r, hr⟩ : ∃ r, l[k]? = some r := ⟨_, List.getElem?_eq_getElem hlt⟩
      obtain ⟨b, o, rfl, hrr⟩ := (H.out.non HF.out).get hr
      have HRR := Lib.hid hrr
      have hk9 : (k : Int) ≤ 4096 := by have := HL.out; omega
      have hb3 := heap_alloc_new wr (.cells (rowC r).toArray 36)
      have hF3 : Fr Non wr (wr.alloc (.cells (rowC r).toArray 36)) := (Fr.refl _ wr).alloc _
      obtain ⟨w3, hw3⟩ : ∃ w3, wr.alloc (.cells (rowC r).toArray 36) = w3 := ⟨_, rfl⟩
      rw [hw3] at hb3 hF3
      obtain ⟨bb, cc, w5, hrun, hY5, hb5, hF5⟩ := put_id r.id (HF.out.trans hF3 (fun _ _ h => h)) (HY.out.fr hF3 (fun _ _ h => h)) HB.out HYL.out
      have HRUN := Lib.hid hrun
      have HB3 := Lib.hid (show w3.rangeAt wr.heap.size 0 (idC r.id) from fun j v hv => rangeAt_of hb3 0 (rowC r) (by simp) j v (rowC_id r j v hv))
      have HX := Lib.hid (And.intro hY5 (And.intro hb5 hF5))
      have HLT := Lib.hid hlt
      have HRE := Lib.hid hr
      clear hrr hr hb3 hF3 hrun hY5 hb5 hF5
      go_wp2_with (first
        | (guard_target =~ wpList _ _ _ (⟨some 11, Op.load 36 _, _, _, _, _⟩ :: _) _ _; refine wl rfl (r_load (b := b) (i := o + k * 83) rfl rfl HRR.out Try.underlying36 rfl (by rw [sz36, rowC_length])) ?_)
        | (guard_target =~ wpList _ _ _ (⟨_, Op.alloc 36, _, _, _, _⟩ :: _) _ _; refine wl rfl (r_allocA rfl (zero36 _)) ?_)
        | (guard_target =~ wpList _ _ _ (⟨_, Op.store 36 _ _, _, _, _, _⟩ :: _) _ _; refine wu rfl (r_store_new (c' := (rowC r).toArray) rfl rfl rfl (by rw [sz36]; simp [rowC_length]) (by simp [rowC_length]) (all_oneCell_toArray (rowC_one r))) ?_; rw [hw3])
        | (guard_target =~ wpList _ _ _ (⟨some 14, Op.load 31 _, _, _, _, _⟩ :: _) _ _; refine wl rfl (r_load (b := wr.heap.size) (i := 0) rfl rfl HB3.out Try.underlying31 rfl (by rw [sz31, idC_length])) ?_)
        | (guard_target =~ wpList _ _ _ (⟨_, Op.buildSlice _ _ _, _, _, _, _⟩ :: _) _ _; refine wl rfl (r_buildSlice (vs := [(0, .agg (idC r.id).toArray)]) rfl rfl (buildSlice23_one w3 r.id)) ?_)
        | (at_builtin; refine wl rfl (r_builtin (vs := [.slice ya ys.length yc, .slice (some ⟨w3.heap.size, 0, none⟩) 1 1]) rfl rfl (builtin_append HRUN.out)) ?_)
        | fail)
      go_roundw
      case rel =>
        refine ⟨k + 1, by go_num, by have := HLT.out; omega, ?_, fun b hb => (by cases hb; exact HX.out.2.1), HX.out.2.2⟩
        rw [List.take_add_one, HRE.out, List.map_append, ← HYS.out]
        exact HX.out.1
      case measure => have := HLT.out; simp [intOf] <;> omega
    · obtain rfl : k = l.length := by omega
      have HS := Lib.hid (sort_c wr _ _ HY.out HYL.out)
      go_wp2_with (first
        | (go_at_call 85; refine HS.out.mono ?_; rintro e w5 ⟨rfl, hO5, hF5⟩; have HO5 := Lib.hid hO5; have HF5 := Lib.hid hF5; clear hO5 hF5)
        | fail)
      go_ret
      have hys : ys = l.map (·.id) := by rw [HYS.out, List.take_length]
      have hyn : ys.length = l.length := by rw [hys, List.length_map]
      refine ⟨ya, yc, by rw [hyn]; rfl, by have := HO5.out; rw [hyn, hys] at this; exact this, HF.out.trans HF5.out (fun i hi e => by have := HB.out i e; omega)⟩

def ShownTo (w w' : World) (e : Ending) (l : List Row) (p : Row → Bool) : Prop := ∃ a c, e = .returned (.tuple #[.slice a (l.filter p).length c, .int .i64 0]) ∧ Own w' 31 32 idC (.slice a (l.filter p).length c) (srt ((l.filter p).map (·.id))) ∧ Fr Non w w'

set_option maxRecDepth 100000 in
theorem Shown_c (w : World) (a : Option Addr) (cap : Nat) (l : List Row) (ga : Option Addr) (gc : Nat) (g : List Id) (now : Int) (hg : Good l) (hgl : g.length ≤ 1000000) (h : AtL w a 83 rowC l) (hr : RefsAt w l) (h2 : AtL w ga 32 idC g) :
    Calls Try.prog 22 #[.slice a l.length cap, .slice ga g.length gc, .int .i64 now] w fun e w' => ShownTo w w' e l (shL l g now) := by
  have HD := Lib.hid (divide_c w a cap l ga gc g now hg hgl h hr h2)
  have HL := Lib.hid hg.1
  clear hg hgl h h2 hr
  obtain ⟨p, hp⟩ : ∃ p, p = shL l g now := ⟨_, rfl⟩
  rw [← hp] at HD ⊢
  clear hp
  go_enter Try.func22, Try.ntmps22
  go_wp2_with (first
    | (go_at_call 54; refine HD.out.mono ?_; rintro e w1 ⟨ya, yc, na, nc, rfl, hy, hn, hF1⟩; have HF1 := Lib.hid hF1; have HI := Lib.hid (ids_c w1 ya yc (l.filter p) (Nat.le_trans (List.length_filter_le _ _) HL.out) (AtL.own elem36 hy)); clear hF1 hy hn)
    | (go_at_call 55; refine HI.out.mono ?_; rintro e w2 ⟨ia, ic, rfl, hi, hF2⟩; have HF2 := Lib.hid hF2; have HI2 := Lib.hid hi; clear hF2 hi)
    | fail)
  go_ret2
  exact ⟨ia, ic, rfl, HI2.out, HF1.out.trans HF2.out (fun _ _ h => h)⟩

set_option maxRecDepth 100000 in
theorem Held_c (w : World) (a : Option Addr) (cap : Nat) (l : List Row) (ga : Option Addr) (gc : Nat) (g : List Id) (now : Int) (hg : Good l) (hgl : g.length ≤ 1000000) (h : AtL w a 83 rowC l) (hr : RefsAt w l) (h2 : AtL w ga 32 idC g) :
    Calls Try.prog 53 #[.slice a l.length cap, .slice ga g.length gc, .int .i64 now] w fun e w' => ShownTo w w' e l (fun r => !shL l g now r) := by
  have HD := Lib.hid (divide_c w a cap l ga gc g now hg hgl h hr h2)
  have HL := Lib.hid hg.1
  clear hg hgl h h2 hr
  obtain ⟨p, hp⟩ : ∃ p, p = shL l g now := ⟨_, rfl⟩
  rw [← hp] at HD ⊢
  clear hp
  go_enter Try.func53, Try.ntmps53
  go_wp2_with (first
    | (go_at_call 54; refine HD.out.mono ?_; rintro e w1 ⟨ya, yc, na, nc, rfl, hy, hn, hF1⟩; have HF1 := Lib.hid hF1; have HI := Lib.hid (ids_c w1 na nc (l.filter fun r => !p r) (Nat.le_trans (List.length_filter_le _ _) HL.out) (AtL.own elem36 hn)); clear hF1 hy hn)
    | (go_at_call 55; refine HI.out.mono ?_; rintro e w2 ⟨ia, ic, rfl, hi, hF2⟩; have HF2 := Lib.hid hF2; have HI2 := Lib.hid hi; clear hF2 hi)
    | fail)
  go_ret2
  exact ⟨ia, ic, rfl, HI2.out, HF1.out.trans HF2.out (fun _ _ h => h)⟩
end Go.Proofs.Ytfemaeacmnhdlaa
