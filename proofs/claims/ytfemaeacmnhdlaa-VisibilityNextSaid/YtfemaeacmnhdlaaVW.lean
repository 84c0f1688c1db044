/-
  Next: the first moment at which what is shown differs.
-/
import Derived.Test.YtfemaeacmnhdlaaVU
namespace Go.Proofs.Ytfemaeacmnhdlaa
open Go.RowKit

def untils (l : List Row) (now : Int) : List Int := (l.filter fun r => decide (now < r.date + 2880)).map fun r => r.date + 2880
noncomputable def nextL (l : List Row) (g : List Id) (now : Int) : Option Int := (Lib.compact (srtI (untils l now))).find? fun t => !decide (shown l g t = shown l g now)
theorem find_first {α : Type} {l : List α} {p : α → Bool} {k : Nat} {t : α} (h : l[k]? = some t) (hno : ∀ x ∈ l.take k, p x = false) (hp : p t = true) : l.find? p = some t := by
  obtain ⟨hk, e⟩ := List.getElem?_eq_some_iff.1 h
  rw [← List.take_append_drop k l, List.find?_append, List.find?_eq_none.2 (fun x hx => by rw [hno x hx]; simp), List.drop_eq_getElem_cons hk, e, List.find?_cons, hp]
  rfl
theorem untils_le (l : List Row) (now : Int) : (untils l now).length ≤ l.length := by
  unfold untils; rw [List.length_map]; exact List.length_filter_le _ _

theorem sz3 : (Try.prog.info? 3).map (·.size) = some 1 := by kernel_rfl
theorem buildSlice68 (w : World) (t : Int) : (Instr.buildSlice 68 1 #[(0, .int .i64 t)]).run Try.prog w = .ok (.slice (some ⟨w.heap.size, 0, none⟩) 1 1) (w.alloc (.cells (intE t).toArray 3)) := by
  have := run_buildSlice_all (P := Try.prog) (w := w) (t := 68) (e := 3) (s := 1) (vs := [.int .i64 t]) Try.underlying68 sz3 (zero3 w) (by intro v hv; rw [List.mem_singleton.1 hv]; rfl) (by simp)
  exact this
theorem put_int {w wr : World} {v : Value} {ys : List Int} (x : Int) (hF : Fr Non w wr) (hy : Own wr 3 1 intE v ys) (hyb : ∀ b, v.ownBlock = some b → w.heap.size ≤ b) (hl : ys.length ≤ 4096) :
    ∃ b cap w', (Builtin.append_ #[68, 68] 68 #[v, .slice (some ⟨wr.heap.size, 0, none⟩) 1 1]).run Try.prog (wr.alloc (.cells (intE x).toArray 3)) = .ok (.slice (some ⟨b, 0, none⟩) (ys.length + 1) cap) w' ∧
      Own w' 3 1 intE (.slice (some ⟨b, 0, none⟩) (ys.length + 1) cap) (ys ++ [x]) ∧ w.heap.size ≤ b ∧ Fr Non w w' := by
  have hF1 : Fr Non wr (wr.alloc (.cells (intE x).toArray 3)) := (Fr.refl _ wr).alloc _
  obtain ⟨b, cap, w', h1, h2, h3, h4, h5⟩ := run_append_one elem3 (t := 68) (ty := 68) Try.underlying68 (hy.fr hF1 (fun _ _ h => h)) (g := wr.heap.size) (x := x) (heap_alloc_new wr _) (by unfold maxLen; omega) (by omega)
  have hF2 : Fr (fun k => v.ownBlock = some k) (wr.alloc (.cells (intE x).toArray 3)) w' := (Fr.refl _ _).grown h3 (fun k hk _ => hk)
  have hF3 : Fr (fun k => v.ownBlock = some k) wr w' := (hF1.mono (fun _ _ h => h.elim)).trans hF2 (fun _ _ e => e)
  refine ⟨b, cap, w', h1, h2, ?_, hF.trans hF3 (fun i hi e => by have := hyb i e; omega)⟩
  rcases h4 with h | h
  · exact hyb b h
  · have := hF.size; simp at h; omega

set_option maxRecDepth 100000 in
set_option maxHeartbeats 2000000 in
theorem Next_c (w : World) (a : Option Addr) (cap : Nat) (l : List Row) (ga : Option Addr) (gc : Nat) (g : List Id) (now : Int) (hl30 : l.length ≤ 30) (hg : Good l) (hgl : g.length ≤ 1000000) (h : AtL w a 83 rowC l) (hr : RefsAt w l) (h2 : AtL w ga 32 idC g) :
    Calls Try.prog 47 #[.slice a l.length cap, .slice ga g.length gc, .int .i64 now] w fun e w' => e = .returned (.tuple #[.int .i64 ((nextL l g now).getD 0), .bool (nextL l g now).isSome, .int .i64 0]) ∧ Fr Non w w' := by
  have HSH := Lib.hid (fun (W : World) (t : Int) (hW : Fr Non w W) => Shown_l W a cap l ga gc g t hg hgl (h.non hW) (hr.non hW) (h2.non hW))
  have HGOOD := Lib.hid hg
  have H := Lib.hid h
  have HL := Lib.hid hl30
  have hl30' : (l.length : Int) ≤ 30 := by omega
  have HK := Lib.hid (HSH.out w now (Fr.refl _ _))
  have HSL := Lib.hid (fun t => (show (shown l g t).length ≤ 1000000 from by have := shown_le l g t; omega))
  obtain ⟨nx, hnx⟩ : ∃ nx, nx = nextL l g now := ⟨_, rfl⟩
  have HNX := Lib.hid hnx
  rw [← hnx]
  obtain ⟨s0, hs0⟩ : ∃ s0, s0 = shown l g now := ⟨_, rfl⟩
  have HS0 := Lib.hid hs0
  rw [← hs0] at HK
  clear hg hgl h hr h2 hl30 hnx hs0
  go_enter Try.func47, Try.ntmps47
  go_wp2_with fail
  refine HK.out.mono ?_
  rintro e w1 ⟨b1, c1, rfl, hA1, hF1⟩
  have HA1 := Lib.hid hA1
  have HF1 := Lib.hid hF1
  clear hA1 hF1
  go_wp2_with fail
  go_loopw [10, 29] (fun v i wr => ∃ k : Nat, i = .int .i64 k ∧ k ≤ l.length ∧ Own wr 3 1 intE v (untils (l.take k) now) ∧ (∀ b, v.ownBlock = some b → w1.heap.size ≤ b) ∧ Fr Non w1 wr) (fun _ i _ => l.length - (intOf i).toNat)
  case atStart => exact ⟨0, rfl, Nat.zero_le _, Own.nil _ _ _ _, (fun b h => by cases h), Fr.refl _ _⟩
  case round =>
    obtain ⟨k, rfl, hk, hy, hyb, hF⟩ := hrel
    obtain ⟨ys, hys⟩ : ∃ ys, ys = untils (l.take k) now := ⟨_, rfl⟩
    rw [← hys] at hy
    have hyl : ys.length ≤ 4096 := by rw [hys]; have := untils_le (l.take k) now; rw [List.length_take] at this; have := HL.out; omega
    have HYS := Lib.hid hys
    have HYL := Lib.hid hyl
    have HY := Lib.hid hy
    have HB := Lib.hid hyb
    have HFW := Lib.hid hF
    clear hy hyb hF hys hyl
    obtain ⟨ya, yc, rfl, -, -, -⟩ := Own.shape HY.out
    by_cases hlt : k < l.length
    · obtain ⟨r, hr⟩ : ∃ r, l[k]? = some r := ⟨_, List.getElem?_eq_getElem hlt⟩
      obtain ⟨b, o, rfl, hrr⟩ := (H.out.non (HF1.out.trans HFW.out (fun _ _ h => h))).get hr
      have hgd := HGOOD.out.2.1 r (List.mem_of_getElem? hr)
      have HRR := Lib.hid hrr
      have hk9 : (k : Int) ≤ 30 := by have := HL.out; omega
      have hb3 := heap_alloc_new wr (.cells (rowC r).toArray 36)
      have hF3 : Fr Non wr (wr.alloc (.cells (rowC r).toArray 36)) := (Fr.refl _ wr).alloc _
      obtain ⟨w3, hw3⟩ : ∃ w3, wr.alloc (.cells (rowC r).toArray 36) = w3 := ⟨_, rfl⟩
      rw [hw3] at hb3 hF3
      have HU3 := Lib.hid (Until_c w3 r hgd.1 hgd.2.1)
      have HUA := Lib.hid (fun W => Until_c W r hgd.1 hgd.2.1)
      have HB3 := Lib.hid (rangeAt_of hb3 0 (rowC r) (by simp))
      have HF3 := Lib.hid hF3
      have HLT := Lib.hid hlt
      have HRE := Lib.hid hr
      have hd0 := hgd.1
      have hd1 := hgd.2.1
      clear hrr hr hb3 hF3 hgd
      go_wp2_with (first
        | (guard_target =~ wpList _ _ _ (⟨some 32, Op.load 36 _, _, _, _, _⟩ :: _) _ _; refine wl rfl (r_load (b := b) (i := o + k * 83) rfl rfl HRR.out Try.underlying36 rfl (by rw [sz36, rowC_length])) ?_)
        | (guard_target =~ wpList _ _ _ (⟨_, Op.alloc 36, _, _, _, _⟩ :: _) _ _; refine wl rfl (r_allocA rfl (zero36 _)) ?_)
        | (guard_target =~ wpList _ _ _ (⟨_, Op.store 36 _ _, _, _, _, _⟩ :: _) _ _; refine wu rfl (r_store_new (c' := (rowC r).toArray) rfl rfl rfl (by rw [sz36]; simp [rowC_length]) (by simp [rowC_length]) (all_oneCell_toArray (rowC_one r))) ?_; rw [hw3])
        | (guard_target =~ wpList _ _ _ (⟨some 33, Op.load 36 _, _, _, _, _⟩ :: _) _ _; refine wl rfl (r_load (b := wr.heap.size) (i := 0) rfl rfl HB3.out Try.underlying36 rfl (by rw [sz36, rowC_length])) ?_)
        | fail)
      refine HU3.out.mono ?_
      rintro e w4 ⟨rfl, hF4⟩
      have HB4 := Lib.hid (rng_fr hF4 HB3.out)
      have HF4 := Lib.hid (HF3.out.trans hF4 (fun _ _ h => h))
      clear hF4
      by_cases hnow : now < r.date + 2880
      · have HU4 := Lib.hid (HUA.out w4)
        have e1 := Lib.hid (show untils (l.take (k + 1)) now = ys ++ [r.date + 2880] from by
          have := HYS.out
          unfold untils at this ⊢
          rw [filter_take_succ HRE.out, if_pos (by simpa using hnow), List.map_append, ← this]; rfl)
        go_wp2_with (first
          | (guard_target =~ wpList _ _ _ (⟨some 38, Op.load 36 _, _, _, _, _⟩ :: _) _ _; refine wl rfl (r_load (b := wr.heap.size) (i := 0) rfl rfl HB4.out Try.underlying36 rfl (by rw [sz36, rowC_length])) ?_)
          | fail)
        refine HU4.out.mono ?_
        rintro e w5 ⟨rfl, hF5⟩
        have hf5 := HF4.out.trans hF5 (fun _ _ h => h)
        obtain ⟨bb, cc, w6, hrun, hY6, hb6, hF6⟩ := put_int (r.date + 2880) (HFW.out.trans hf5 (fun _ _ h => h)) (HY.out.fr hf5 (fun _ _ h => h)) HB.out HYL.out
        have HRUN := Lib.hid hrun
        have HX := Lib.hid (And.intro hY6 (And.intro hb6 hF6))
        clear hF5 hf5 hrun hY6 hb6 hF6
        go_wp2_with (first
          | (guard_target =~ wpList _ _ _ (⟨_, Op.buildSlice _ _ _, _, _, _, _⟩ :: _) _ _; refine wl rfl (r_buildSlice (vs := [(0, .int .i64 (r.date + 2880))]) rfl rfl (buildSlice68 w5 (r.date + 2880))) ?_)
          | (at_builtin; refine wl rfl (r_builtin (vs := [.slice ya ys.length yc, .slice (some ⟨w5.heap.size, 0, none⟩) 1 1]) rfl rfl (builtin_append HRUN.out)) ?_)
          | fail)
        go_roundw
        case rel => exact ⟨k + 1, by go_num, by have := HLT.out; omega, by rw [e1.out]; exact HX.out.1, fun b hb => (by cases hb; exact HX.out.2.1), HX.out.2.2⟩
        case measure => have := HLT.out; simp [intOf] <;> omega
      · have hnow' : r.date + 2880 ≤ now := by omega
        have e1 := Lib.hid (show untils (l.take (k + 1)) now = ys from by
          have := HYS.out
          unfold untils at this ⊢
          rw [filter_take_succ HRE.out, if_neg (by simpa using hnow'), List.append_nil, ← this])
        clear hnow
        go_wp2_with fail
        go_roundw
        case rel => exact ⟨k + 1, by go_num, by have := HLT.out; omega, by rw [e1.out]; exact HY.out.fr HF4.out (fun _ _ h => h), HB.out, HFW.out.trans HF4.out (fun _ _ h => h)⟩
        case measure => have := HLT.out; simp [intOf] <;> omega
    · obtain rfl : k = l.length := by omega
      rw [List.take_length] at HYS
      have HS := Lib.hid (sort79 wr _ _ HY.out HYL.out)
      obtain ⟨w2, hw2⟩ : ∃ w2 : World, w2 = wr := ⟨_, rfl⟩
      subst hw2
      go_wp2_with fail
      refine HS.out.mono ?_
      rintro e w3 ⟨rfl, hO3, hF3⟩
      have hsl : (srtI ys).length = ys.length := (srtI_perm ys).length_eq
      have hk3 := compact80 w3 _ _ hO3 (by rw [hsl]; exact HYL.out)
      have HK3 := Lib.hid hk3
      have HF3 := Lib.hid hF3
      clear hO3 hF3 hk3 hsl
      go_wp2_with fail
      refine HK3.out.mono ?_
      rintro e w4 ⟨a4, c4, rfl, hA4, hF4⟩
      obtain ⟨cs, hcs⟩ : ∃ cs, cs = Lib.compact (srtI ys) := ⟨_, rfl⟩
      rw [← hcs] at hA4
      have hcl : cs.length ≤ 4096 := by have h1 := Lib.compact_length_le (srtI ys); have h2 : (srtI ys).length = ys.length := (srtI_perm ys).length_eq; have h3 := HYL.out; rw [hcs]; omega
      have hcl' : (cs.length : Int) ≤ 4096 := by omega
      have HNX2 : Hid (nx = cs.find? fun t => !decide (shown l g t = s0)) := by have := HNX.out; unfold nextL at this; rw [hcs, HYS.out, HS0.out]; exact this
      have HF04 := Lib.hid (HF1.out.trans (HFW.out.trans (HF3.out.trans hF4 (fun _ _ h => h)) (fun i hi e => by have := HB.out i e; omega)) (fun _ _ h => h))
      have HA14 := Lib.hid (HA1.out.non (HFW.out.trans (HF3.out.trans hF4 (fun i hi e => e)) (fun i hi e => by have := HB.out i e; omega)))
      have HA4 := Lib.hid hA4
      rw [← hcs]
      clear hA4 hF4 hcs
      go_wp2_with fail
      go_loopw [48] (fun i wr => ∃ k : Nat, i = .int .i64 k ∧ k ≤ cs.length ∧ (∀ t ∈ cs.take k, shown l g t = s0) ∧ Fr Non w4 wr) (fun i _ => cs.length - (intOf i).toNat)
      case atStart => exact ⟨0, rfl, Nat.zero_le _, by simp, Fr.refl _ _⟩
      case round =>
        obtain ⟨k, rfl, hk, hno, hF⟩ := hrel
        have HNO := Lib.hid hno
        have HFL := Lib.hid hF
        clear hno hF
        by_cases hlt : k < cs.length
        · obtain ⟨t, ht⟩ : ∃ t, cs[k]? = some t := ⟨_, List.getElem?_eq_getElem hlt⟩
          obtain ⟨b5, o5, rfl, htr⟩ := (HA4.out.non HFL.out).get ht
          have hk9 : (k : Int) ≤ 4096 := by omega
          have hct : wr.cell? ⟨b5, o5 + k, none⟩ = some (.int .i64 t) := by have := htr 0 _ rfl; simpa using this
          have HX := Lib.hid (HSH.out wr t (HF04.out.trans HFL.out (fun _ _ h => h)))
          have HTT := Lib.hid ht
          have HLT := Lib.hid hlt
          clear htr ht
          go_wp2_with fail
          refine HX.out.mono ?_
          rintro e w6 ⟨b6, c6, rfl, hA6, hF6⟩
          have HEQ := Lib.hid (Equal81 w6 b6 c6 (shown l g t) b1 c1 s0 (HSL.out t) hA6 ((HA14.out.non HFL.out).non hF6))
          have HF6 := Lib.hid hF6
          clear hA6 hF6
          by_cases he : shown l g t = s0
          · rw [decide_eq_true he] at HEQ
            have HE := Lib.hid he
            clear he
            go_wp2_with fail
            refine HEQ.out.mono ?_
            rintro e w7 ⟨rfl, hF7⟩
            have HF7 := Lib.hid hF7
            clear hF7
            go_wp2_with fail
            go_roundw
            case rel => exact ⟨k + 1, by go_num, by have := HLT.out; omega, fun t' ht' => ((mem_take_succ HTT.out t').1 ht').elim (HNO.out t') (fun e => e ▸ HE.out), HFL.out.trans (HF6.out.trans HF7.out (fun _ _ h => h)) (fun _ _ h => h)⟩
            case measure => have := HLT.out; simp [intOf] <;> omega
          · rw [decide_eq_false he] at HEQ
            have HE := Lib.hid he
            clear he
            go_wp2_with fail
            refine HEQ.out.mono ?_
            rintro e w7 ⟨rfl, hF7⟩
            have HF7 := Lib.hid hF7
            clear hF7
            go_wp2_with fail
            go_ret3
            have hfound : nx = some t := by rw [HNX2.out]; exact find_first HTT.out (fun x hx => by rw [decide_eq_true (HNO.out x hx)]; rfl) (by rw [decide_eq_false HE.out]; rfl)
            exact ⟨by rw [hfound]; rfl, HF04.out.trans (HFL.out.trans (HF6.out.trans HF7.out (fun _ _ h => h)) (fun _ _ h => h)) (fun _ _ h => h)⟩
        · obtain rfl : k = cs.length := by omega
          go_wp2_with fail
          go_ret3
          have hnone : nx = none := by rw [HNX2.out, List.find?_eq_none]; intro x hx; rw [decide_eq_true (HNO.out x (by rw [List.take_length]; exact hx))]; simp
          exact ⟨by rw [hnone]; rfl, HF04.out.trans HFL.out (fun _ _ h => h)⟩
end Go.Proofs.Ytfemaeacmnhdlaa
