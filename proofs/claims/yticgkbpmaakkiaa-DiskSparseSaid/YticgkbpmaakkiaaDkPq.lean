/-
  The reference's Restart, where it restarts.
-/
import Derived.Test.YticgkbpmaakkiaaDkOq
namespace Go.Proofs.Yticgkbpmaakkiaa
open Go.RowKit

set_option maxRecDepth 100000 in
set_option maxHeartbeats 4000000 in
theorem RRestart_ok (w : World) (dv wv : Value) (D : Dsk) (sv : Value) (cs : List UInt8) (hD : Dok D) (h : RefAt w dv wv D) (hd : D.down = true) (hcs : cs.length ≤ 9223372036854775807) (hbs : BytesAt w sv cs) :
    Calls Try.prog 49 #[.agg (refL dv wv D).toArray, sv] w fun e w' => ∃ dv' wv', e = .returned (.tuple #[.agg (refL dv' wv' (D.restart cs)).toArray, .int .i64 0]) ∧ RefAt w' dv' wv' (D.restart cs) ∧ Fr Non w w' := by
  obtain ⟨w1, w2, hw1, hw2, hs1, hs2, hb, hz, hF2, -, -⟩ := box2 w (refL dv wv D).toArray
  have c3 : w2.cell? ⟨w.heap.size, 3, none⟩ = some (.bool D.down) := cellOf hb 3 rfl
  rw [hd] at c3
  have HR := Lib.hid (rangeAt_of hb 0 (refL dv wv D) (by simp))
  have HB := Lib.hid hb
  have HZ := Lib.hid hz
  have HF2 := Lib.hid hF2
  have HH := Lib.hid h
  have HS1 := Lib.hid hs1
  clear hs1 hs2 hb hz hF2 h
  obtain ⟨sa, scap, rfl, hbs⟩ := hbs
  have HBS := Lib.hid hbs
  clear hbs
  go_enter Try.func49, Try.ntmps49
  go_wp2_with (first
    | (guard_target =~ wpList _ _ _ (⟨_, Op.box 45 _, _, _, _, _⟩ :: _) _ _; refine wl rfl (r_boxA rfl rfl) ?_; rw [hw1])
    | (guard_target =~ wpList _ _ _ (⟨_, Op.alloc 45, _, _, _, _⟩ :: _) _ _; refine wl rfl (r_allocA rfl (zero45 _)) ?_; rw [hw2])
    | (guard_target =~ wpList _ _ _ (⟨_, Op.load 45 _, _, _, _, _⟩ :: _) _ w2; refine wl rfl (r_load (b := w.heap.size) (i := 0) rfl rfl HR.out Try.underlying45 rfl (by rw [sz45]; rfl)) ?_)
    | (go_at_call 46; refine (Copy_ref w2 dv wv D hD (HH.out.non HF2.out)).mono ?_; rintro e w4 ⟨dv', wv', rfl, hN4, hF4⟩; have HN4 := Lib.hid hN4; have HF4 := Lib.hid (HF2.out.trans hF4 (fun _ _ h => h)); have HQ4 := Lib.hid hF4.size; have HB4 := Lib.hid (hF4.keep HB.out (fun h => h)); have HZ4 := Lib.hid (hF4.keep HZ.out (fun h => h)); clear hN4 hF4)
    | (guard_target =~ wpList _ _ _ (⟨_, Op.store 45 _ _, _, _, _, _⟩ :: _) _ w4; refine wu rfl (r_store (b := w.heap.size) (i := 0) (cs := refL dv' wv' D) rfl rfl rfl (there45 HB4.out rfl) (by rw [sz45]; rfl) (refL_one HN4.out.at D)) ?_; obtain ⟨W5, hW5⟩ : ∃ W, w4.setCells w.heap.size 0 (refL dv' wv' D) = W := ⟨_, rfl⟩; rw [hW5]; have HW5 := Lib.hid hW5; clear hW5)
    | fail)
  have hs01 : w.heap.size < w1.heap.size := by have := HS1.out; omega
  have hs12 : w1.heap.size < w2.heap.size := heap_lt HZ.out
  have hF6 : Fr (· = w.heap.size) w4 W5 := by rw [← HW5.out]; exact Fr.setCells (S := (· = w.heap.size)) _ (fun _ => rfl) _ _ _ (Fr.refl _ _)
  have hA6 : Apart w4 (· = w.heap.size) := by
    rintro k rfl cs
    rw [HB4.out]; exact ⟨by simp, by simp, by simp⟩
  obtain ⟨ss, ys, hS6⟩ := RefNew.s (HN4.out.fr hF6 hA6)
  have hB6 : W5.heap[w.heap.size]? = some (.cells (refL dv' wv' D).toArray 45) := by rw [← HW5.out]; exact put45 HB4.out rfl (l := refL dv' wv' D) rfl
  have hZ6 := hF6.keep HZ4.out (by omega)
  have hG6 : Fr Non w W5 := HF4.out.trans hF6 (fun i hi e => by exfalso; omega)
  obtain ⟨gd, cd, nn, hdv, hn0, hnn⟩ : ∃ gd cd nn, dv' = .slice (some ⟨gd, 0, none⟩) nn cd ∧ (nn : Int) = D.n ∧ nn = ss.length := by
    obtain ⟨a, cap, rfl, _, hnil, hag⟩ := Own.shape hS6.r.own
    cases a with
    | none => have := hnil rfl; have h2 := hS6.n; rw [this] at h2; simp at h2; have := hD.n0; omega
    | some ad =>
      obtain ⟨g, rfl⟩ := hag ad rfl
      exact ⟨g, cap, _, rfl, hS6.n, rfl⟩
  subst hdv
  obtain ⟨aw, cw, rfl, -, -, hagw⟩ := Own.shape hS6.w.own
  have hn1 : nn ≤ 4096 := by have := hD.n1; omega
  have hyl : ys.length = D.pend.length := hS6.w.len
  have hyb : ys.length ≤ 50000 := by have := hD.len; omega
  have HQ6 : Hid (w2.heap.size ≤ W5.heap.size) := Nat.le_trans HQ4.out hF6.size
  have HS6 := Lib.hid hS6
  have HB6 := Lib.hid hB6
  have HZ6 := Lib.hid hZ6
  have HG6 := Lib.hid hG6
  have HN0 := Lib.hid hn0
  have HNN := Lib.hid hnn
  have HYL := Lib.hid hyl
  have HAGW := Lib.hid hagw
  clear hS6 hB6 hZ6 hG6 hF6 hA6 hn0 hs01 hs12 hnn hyl hagw
  go_loopw [6] (fun u wr => ∃ k : Nat, k ≤ ys.length ∧ u = .int .i64 k ∧ RefS wr w2.heap.size (.slice (some ⟨gd, 0, none⟩) nn cd) (.slice aw ys.length cw) ss ys (D.restartTo cs k) ∧ wr.heap[w.heap.size]? = some (.cells (refL (.slice (some ⟨gd, 0, none⟩) nn cd) (.slice aw ys.length cw) D).toArray 45) ∧
    wr.heap[w1.heap.size]? = some (.cells zref 45) ∧ Fr Non w wr ∧ w2.heap.size ≤ wr.heap.size) (fun u _ => ys.length - (intOf u).toNat)
  case atStart => exact ⟨0, Nat.zero_le _, rfl, HS6.out, HB6.out, HZ6.out, HG6.out, HQ6.out⟩
  case round =>
    obtain ⟨k, hk, rfl, hN, hB, hZ, hG, hQ⟩ := hrel
    have c1 : wr.cell? ⟨w.heap.size, 1, none⟩ = some (.slice aw ys.length cw) := cellOf hB 1 rfl
    have HQ := Lib.hid hQ
    have HN := Lib.hid hN
    have HBk := Lib.hid hB
    have HZk := Lib.hid hZ
    have HG := Lib.hid hG
    clear hN hB hZ hG hQ
    by_cases hlt : k < ys.length
    · obtain ⟨y, hy⟩ : ∃ y, ys[k]? = some y := ⟨_, List.getElem?_eq_getElem hlt⟩
      obtain ⟨x, hx⟩ : ∃ x, D.pend[k]? = some x := ⟨_, List.getElem?_eq_getElem (by have := HYL.out; omega)⟩
      have hxk : (D.restartTo cs k).pend[k]? = some x := by rw [(restartTo_keeps D cs k).1]; exact hx
      obtain ⟨ey, g3, cap3, ey2, ho3, -⟩ := HN.out.w.el k y x hy hxk
      obtain ⟨y1, y2⟩ := y
      simp only at ey ey2
      subst ey ey2
      obtain ⟨gw, rfl⟩ : ∃ gw, aw = some ⟨gw, 0, none⟩ := by
        cases aw with
        | none =>
          rcases HN.out.w.own.2 with ⟨hh, h0⟩ | ⟨g', cap', cur, hv', _⟩
          · rw [h0] at hlt; omega
          · cases hv'
        | some ad => obtain ⟨g, e⟩ := HAGW.out ad rfl; exact ⟨g, by rw [e]⟩
      have hrw : wr.rangeAt gw (k * 2) (encW (x.1, (some ⟨g3, 0, none⟩, 256, cap3))) := Own.elem elem92 HN.out.w.own hy
      have hxs := hD.sec x (List.mem_of_getElem? hx)
      obtain ⟨i0, hi0⟩ : ∃ i0 : Nat, (i0 : Int) = x.1 := ⟨x.1.toNat, by omega⟩
      have hi0n : i0 < nn := by have := HN0.out; omega
      obtain ⟨s0, hs0⟩ : ∃ s, ss[i0]? = some s := ⟨_, List.getElem?_eq_getElem (by have := HNN.out; omega)⟩
      have HI0N := Lib.hid hi0n
      obtain ⟨gs0, cps0, rfl, -, -⟩ := HN.out.r.el i0 s0 hs0
      have hT : (wr.alloc (.cells (encW (x.1, (some ⟨g3, 0, none⟩, 256, cap3))).toArray 92)).heap[wr.heap.size]? = some (.cells (encW (x.1, (some ⟨g3, 0, none⟩, 256, cap3))).toArray 92) := heap_alloc_new wr _
      have hFT : Fr Non wr (wr.alloc (.cells (encW (x.1, (some ⟨g3, 0, none⟩, 256, cap3))).toArray 92)) := (Fr.refl _ _).alloc _
      obtain ⟨WT, hWT⟩ : ∃ WT, wr.alloc (.cells (encW (x.1, (some ⟨g3, 0, none⟩, 256, cap3))).toArray 92) = WT := ⟨_, rfl⟩
      rw [hWT] at hT hFT
      have hHR : Hid (WT.rangeAt w.heap.size 0 (refL (.slice (some ⟨gd, 0, none⟩) nn cd) (.slice (some ⟨gw, 0, none⟩) ys.length cw) D)) := rangeAt_of (hFT.keep HBk.out (fun h => h)) 0 _ (by simp)
      have HR0 : Hid (RefS WT w2.heap.size (.slice (some ⟨gd, 0, none⟩) nn cd) (.slice (some ⟨gw, 0, none⟩) ys.length cw) ss ys (D.restartTo cs k)) := HN.out.fr hFT (Apart.non _)
      have HBT := Lib.hid (hFT.keep HBk.out (fun h => h))
      have HZT := Lib.hid (hFT.keep HZk.out (fun h => h))
      have HTB := Lib.hid hT
      have HGT := Lib.hid (HG.out.trans hFT (fun _ _ h => h))
      have HQT := Lib.hid (Nat.le_trans HQ.out hFT.size)
      have HRW := Lib.hid hrw
      have HX := Lib.hid hx
      have HY := Lib.hid hy
      have HI0 := Lib.hid hi0
      clear hi0
      have HSI := Lib.hid hs0
      have HX' := Lib.hid hxk
      obtain ⟨tb, htb⟩ : ∃ tb, tb = wr.heap.size := ⟨_, rfl⟩
      rw [← htb] at HTB
      -- the choice
      obtain ⟨c, hc⟩ : ∃ c, cs.getD k 0 = c := ⟨_, rfl⟩
      have HCE := Lib.hid hc
      have hcell : k < cs.length → ∃ b o, sa = some ⟨b, o, none⟩ ∧ wr.cell? ⟨b, o + k, none⟩ = some (.int .u8 (c.toNat : Int)) := by
        intro hkc
        rcases HBS.out with hb | ⟨b, o, rfl, hb⟩
        · rw [hb] at hkc; simp at hkc
        · refine ⟨b, o, rfl, HG.out.cell (hb k _ ?_) (fun h => h)⟩
          rw [u8s_get, List.getElem?_eq_getElem hkc, ← hc]
          simp [List.getD, List.getElem?_eq_getElem hkc]
      have hc256 : c.toNat < 256 := UInt8.toNat_lt c
      have htm : ((c.toNat : Int)).tmod 3 = ((c.toNat % 3 : Nat) : Int) := by rw [Int.tmod_eq_emod_of_nonneg (by omega)]; omega
      have htd : (((c.toNat : Int)).tdiv 3).tmod 17 = ((c.toNat / 3 % 17 : Nat) : Int) := by
        rw [Int.tdiv_eq_ediv_of_nonneg (by omega), Int.tmod_eq_emod_of_nonneg (by omega)]; omega
      by_cases hkc : k < cs.length
      · obtain ⟨bc, oc, rfl, hcc⟩ := hcell hkc
        clear hcell
        rcases (by omega : c.toNat % 3 = 0 ∨ c.toNat % 3 = 1 ∨ c.toNat % 3 = 2) with hm | hm | hm
        · have hfn0 : (fateN c : Int) = 0 := by
            unfold fateN
            simp only [hm]
            rfl
          have HFN := Lib.hid hfn0
          have e3 : ((c.toNat : Int)).tmod 3 = 0 := by rw [htm, hm]; rfl
          clear hfn0 hm htm htd
          go_wp2_with (first
        | (guard_target =~ wpList _ _ _ (⟨_, Op.load 92 _, _, _, _, _⟩ :: _) _ _; refine wl rfl (r_load (b := gw) (i := k * 2) rfl rfl HRW.out Try.underlying92 rfl (by rw [sz92]; rfl)) ?_)
        | (guard_target =~ wpList _ _ _ (⟨_, Op.alloc 92, _, _, _, _⟩ :: _) _ _; refine wl rfl (r_allocA rfl (zero92 _)) ?_)
        | (guard_target =~ wpList _ _ _ (⟨_, Op.store 92 _ _, _, _, _, _⟩ :: _) _ _; refine wu rfl (r_store_new (c' := (encW (x.1, (some ⟨g3, 0, none⟩, 256, cap3))).toArray) rfl rfl rfl (by rw [sz92]; rfl) rfl (all_oneCell_toArray (encW_one _))) ?_; rw [hWT, ← htb])
        | fail)
          clear c1
          rw [← htb]
          clear htb
          go_loopw [10] (fun u wq => ∃ q : Nat, ∃ hq : q ≤ 256, q ≤ fateN c ∧ u = .int .i64 q ∧ RefS wq w2.heap.size (Value.slice (some ⟨gd, 0, none⟩) nn cd) (Value.slice (some ⟨gw, 0, none⟩) ys.length cw) ss ys ((D.restartTo cs k).store x.1 (tornS ((D.restartTo cs k).at x.1) x.2 q hq)) ∧ wq.heap[w.heap.size]? = some (.cells (refL (Value.slice (some ⟨gd, 0, none⟩) nn cd) (Value.slice (some ⟨gw, 0, none⟩) ys.length cw) D).toArray 45) ∧
            wq.heap[w1.heap.size]? = some (.cells zref 45) ∧ wq.heap[tb]? = some (.cells (encW (x.1, (some ⟨g3, 0, none⟩, 256, cap3))).toArray 92) ∧ Fr Non w wq ∧ w2.heap.size ≤ wq.heap.size) (fun u _ => fateN c - (intOf u).toNat)
          case atStart =>
            refine ⟨0, by omega, by omega, rfl, HR0.out.to rfl rfl (fun i hi => ?_), HBT.out, HZT.out, HTB.out, HGT.out, HQT.out⟩
            rw [store_at]
            split
            · rename_i e; rw [e]; first | done | exact Subtype.ext (tornL_zero _ _)
            · rfl
          case round =>
            obtain ⟨q, hq, hqn, rfl, hR, hB, hZ, hT, hG, hQ⟩ := hrel
            have HR := Lib.hid hR
            have HBq := Lib.hid hB
            have HZq := Lib.hid hZ
            have HTq := Lib.hid hT
            have HGq := Lib.hid hG
            have HQq := Lib.hid hQ
            by_cases hlq : q < fateN c
            · have hq256 : q < 256 := by have := fateN_le c; omega
              obtain ⟨bq, hbq⟩ := sec_get x.2 q hq256
              obtain ⟨gs', cps', egs, hogs, -⟩ := hR.r.el i0 _ HSI.out
              cases egs
              obtain ⟨_, g3', cap3', e3, ho3, hb3⟩ := hR.w.el k _ x HY.out HX'.out
              cases e3
              obtain ⟨gd', cd', edv, hdc⟩ : ∃ gd' cd', (Value.slice (some ⟨gd, 0, none⟩) nn cd) = .slice (some ⟨gd', 0, none⟩) nn cd' ∧ ∀ (i : Nat) (s : Raw), ss[i]? = some s → wr.cell? ⟨gd', i, none⟩ = some (rawV s) := by
                refine ⟨gd, cd, rfl, fun i s hi => ?_⟩
                have := Own.elem elem30 hR.r.own hi 0 _ rfl
                simpa using this
              cases edv
              have d0 : wr.cell? ⟨w.heap.size, 0, none⟩ = some (Value.slice (some ⟨gd, 0, none⟩) nn cd) := cellOf hB 0 rfl
              have d1 : wr.cell? ⟨tb, 0, none⟩ = some (.int .i64 i0) := by rw [HI0.out]; exact cellOf hT 0 rfl
              have d2 : wr.cell? ⟨gd, i0, none⟩ = some (.slice (some ⟨gs0, 0, none⟩) 256 cps0) := hdc i0 _ HSI.out
              have d3 : wr.cell? ⟨tb, 1, none⟩ = some (.slice (some ⟨g3, 0, none⟩) 256 cap3) := cellOf hT 1 rfl
              have d4 : wr.cell? ⟨g3, q, none⟩ = some (.int .u8 (bq.toNat : Int)) := ho3.cell q bq hbq
              have hold := sec_get ((((D.restartTo cs k).store x.1 (tornS ((D.restartTo cs k).at x.1) x.2 q hq))).at i0) q hq256
              obtain ⟨bo, hbo⟩ := hold
              have d5 : wr.cell? ⟨gs0, q, none⟩ = some (.int .u8 (bo.toNat : Int)) := hogs.cell q bo hbo
              have f5 : wr.frozen? ⟨gs0, q, none⟩ = false := hogs.frozen q
              have hgsB : w2.heap.size ≤ gs0 := by obtain ⟨_, _, e, _, h⟩ := hR.r.el i0 _ HSI.out; cases e; exact h
              have hs01 : w.heap.size < w1.heap.size := by have := HS1.out; omega
              have hs12 : w1.heap.size < w2.heap.size := heap_lt HZ.out
              have hF1 : Fr (· = gs0) wr (wr.setCell ⟨gs0, q, none⟩ (.int .u8 (bq.toNat : Int))) := (Fr.refl (· = gs0) wr).setCell _ _ (fun _ => rfl)
              have hR1 : RefS (wr.setCell ⟨gs0, q, none⟩ (.int .u8 (bq.toNat : Int))) w2.heap.size (Value.slice (some ⟨gd, 0, none⟩) nn cd) (Value.slice (some ⟨gw, 0, none⟩) ys.length cw) ss ys ((D.restartTo cs k).store x.1 (tornS ((D.restartTo cs k).at x.1) x.2 (q + 1) (by omega))) :=
                hR.poke (D' := (D.restartTo cs k).store x.1 (tornS ((D.restartTo cs k).at x.1) x.2 (q + 1) (by omega))) HSI.out q hq256 bq rfl rfl (by
                  rw [store_at, store_at, if_pos HI0.out, if_pos HI0.out]
                  exact (tornL_set _ _ q bq ((D.restartTo cs k).at x.1).2 x.2.2 hq256 hbq).symm) (fun j hj => by
                  rw [store_at, store_at, if_neg (by have := HI0.out; omega), if_neg (by have := HI0.out; omega)])
              have hgsT : gs0 ≠ tb := by
                rintro rfl
                obtain ⟨cs', h'⟩ := Own.typed hogs (b := gs0) rfl
                rw [hT] at h'; cases h'
              have HR1 := Lib.hid hR1
              have HB1 := Lib.hid (hF1.keep hB (by omega))
              have HZ1 := Lib.hid (hF1.keep hZ (by omega))
              have HT1 := Lib.hid (hF1.keep hT (by omega))
              have HG1 := Lib.hid (hG.trans hF1 (fun i hi e => by exfalso; omega))
              have HQ1 := Lib.hid (Nat.le_trans hQ hF1.size)
              have hnc : (q : Int) < 0 := by have := HFN.out; omega
              have hi0n : (i0 : Int) < (nn : Int) := by have := HI0N.out; omega
              have hqi : (q : Int) < 256 := by omega
              clear hR hB hZ hT hG hQ hbq hogs ho3 hb3 hdc hbo hgsB hs01 hs12 hF1 hR1 hgsT
              go_wp2_with fail
              refine rt 13 (by kernel_rfl) (by kernel_rfl) ?_
              simp only [List.take_succ_cons, List.take_zero, List.drop_succ_cons, List.drop_zero]
              iterate 13 still_step
              refine ws_nil ?_
              refine wu rfl (w' := (wr.setCell ⟨gs0, q, none⟩ (.int .u8 (bq.toNat : Int))).drew) (by unfold RunU; go_simp) ?_
              clear d0 d1 d2 d3 d4 d5 f5
              generalize wr.setCell ⟨gs0, q, none⟩ (.int .u8 (bq.toNat : Int)) = W8 at *
              go_wp2
              go_roundw
              case rel => exact ⟨q + 1, by omega, by omega, by go_num, HR1.out.fr ((Fr.refl Non W8).drew) (Apart.non _), HB1.out, HZ1.out, HT1.out, HG1.out.drew, HQ1.out⟩
              case measure => simp [intOf] <;> omega
            · obtain rfl : q = fateN c := by omega
              clear hR hB hZ hT hG hQ hlq
              have hfn := HFN.out
              go_wp2
              go_roundw
              case rel =>
                refine ⟨k + 1, by omega, by go_num, ?_, HBq.out, HZq.out, HGq.out, HQq.out⟩
                have e : D.restartTo cs (k + 1) = (D.restartTo cs k).store x.1 (tornS ((D.restartTo cs k).at x.1) x.2 (fateN c) hq) := by
                  conv => lhs; unfold Dsk.restartTo
                  rw [HX.out]
                  simp only [HCE.out, fateOf_torn]
                rw [e]
                exact HR.out
              case measure => simp [intOf] <;> omega

        · have hfn0 : (fateN c : Int) = 256 := by
            unfold fateN
            simp only [hm]
            rfl
          have HFN := Lib.hid hfn0
          have e3 : ((c.toNat : Int)).tmod 3 = 1 := by rw [htm, hm]; rfl
          clear hfn0 hm htm htd
          go_wp2_with (first
        | (guard_target =~ wpList _ _ _ (⟨_, Op.load 92 _, _, _, _, _⟩ :: _) _ _; refine wl rfl (r_load (b := gw) (i := k * 2) rfl rfl HRW.out Try.underlying92 rfl (by rw [sz92]; rfl)) ?_)
        | (guard_target =~ wpList _ _ _ (⟨_, Op.alloc 92, _, _, _, _⟩ :: _) _ _; refine wl rfl (r_allocA rfl (zero92 _)) ?_)
        | (guard_target =~ wpList _ _ _ (⟨_, Op.store 92 _ _, _, _, _, _⟩ :: _) _ _; refine wu rfl (r_store_new (c' := (encW (x.1, (some ⟨g3, 0, none⟩, 256, cap3))).toArray) rfl rfl rfl (by rw [sz92]; rfl) rfl (all_oneCell_toArray (encW_one _))) ?_; rw [hWT, ← htb])
        | fail)
          clear c1
          rw [← htb]
          clear htb
          go_loopw [10] (fun u wq => ∃ q : Nat, ∃ hq : q ≤ 256, q ≤ fateN c ∧ u = .int .i64 q ∧ RefS wq w2.heap.size (Value.slice (some ⟨gd, 0, none⟩) nn cd) (Value.slice (some ⟨gw, 0, none⟩) ys.length cw) ss ys ((D.restartTo cs k).store x.1 (tornS ((D.restartTo cs k).at x.1) x.2 q hq)) ∧ wq.heap[w.heap.size]? = some (.cells (refL (Value.slice (some ⟨gd, 0, none⟩) nn cd) (Value.slice (some ⟨gw, 0, none⟩) ys.length cw) D).toArray 45) ∧
            wq.heap[w1.heap.size]? = some (.cells zref 45) ∧ wq.heap[tb]? = some (.cells (encW (x.1, (some ⟨g3, 0, none⟩, 256, cap3))).toArray 92) ∧ Fr Non w wq ∧ w2.heap.size ≤ wq.heap.size) (fun u _ => fateN c - (intOf u).toNat)
          case atStart =>
            refine ⟨0, by omega, by omega, rfl, HR0.out.to rfl rfl (fun i hi => ?_), HBT.out, HZT.out, HTB.out, HGT.out, HQT.out⟩
            rw [store_at]
            split
            · rename_i e; rw [e]; first | done | exact Subtype.ext (tornL_zero _ _)
            · rfl
          case round =>
            obtain ⟨q, hq, hqn, rfl, hR, hB, hZ, hT, hG, hQ⟩ := hrel
            have HR := Lib.hid hR
            have HBq := Lib.hid hB
            have HZq := Lib.hid hZ
            have HTq := Lib.hid hT
            have HGq := Lib.hid hG
            have HQq := Lib.hid hQ
            by_cases hlq : q < fateN c
            · have hq256 : q < 256 := by have := fateN_le c; omega
              obtain ⟨bq, hbq⟩ := sec_get x.2 q hq256
              obtain ⟨gs', cps', egs, hogs, -⟩ := hR.r.el i0 _ HSI.out
              cases egs
              obtain ⟨_, g3', cap3', e3, ho3, hb3⟩ := hR.w.el k _ x HY.out HX'.out
              cases e3
              obtain ⟨gd', cd', edv, hdc⟩ : ∃ gd' cd', (Value.slice (some ⟨gd, 0, none⟩) nn cd) = .slice (some ⟨gd', 0, none⟩) nn cd' ∧ ∀ (i : Nat) (s : Raw), ss[i]? = some s → wr.cell? ⟨gd', i, none⟩ = some (rawV s) := by
                refine ⟨gd, cd, rfl, fun i s hi => ?_⟩
                have := Own.elem elem30 hR.r.own hi 0 _ rfl
                simpa using this
              cases edv
              have d0 : wr.cell? ⟨w.heap.size, 0, none⟩ = some (Value.slice (some ⟨gd, 0, none⟩) nn cd) := cellOf hB 0 rfl
              have d1 : wr.cell? ⟨tb, 0, none⟩ = some (.int .i64 i0) := by rw [HI0.out]; exact cellOf hT 0 rfl
              have d2 : wr.cell? ⟨gd, i0, none⟩ = some (.slice (some ⟨gs0, 0, none⟩) 256 cps0) := hdc i0 _ HSI.out
              have d3 : wr.cell? ⟨tb, 1, none⟩ = some (.slice (some ⟨g3, 0, none⟩) 256 cap3) := cellOf hT 1 rfl
              have d4 : wr.cell? ⟨g3, q, none⟩ = some (.int .u8 (bq.toNat : Int)) := ho3.cell q bq hbq
              have hold := sec_get ((((D.restartTo cs k).store x.1 (tornS ((D.restartTo cs k).at x.1) x.2 q hq))).at i0) q hq256
              obtain ⟨bo, hbo⟩ := hold
              have d5 : wr.cell? ⟨gs0, q, none⟩ = some (.int .u8 (bo.toNat : Int)) := hogs.cell q bo hbo
              have f5 : wr.frozen? ⟨gs0, q, none⟩ = false := hogs.frozen q
              have hgsB : w2.heap.size ≤ gs0 := by obtain ⟨_, _, e, _, h⟩ := hR.r.el i0 _ HSI.out; cases e; exact h
              have hs01 : w.heap.size < w1.heap.size := by have := HS1.out; omega
              have hs12 : w1.heap.size < w2.heap.size := heap_lt HZ.out
              have hF1 : Fr (· = gs0) wr (wr.setCell ⟨gs0, q, none⟩ (.int .u8 (bq.toNat : Int))) := (Fr.refl (· = gs0) wr).setCell _ _ (fun _ => rfl)
              have hR1 : RefS (wr.setCell ⟨gs0, q, none⟩ (.int .u8 (bq.toNat : Int))) w2.heap.size (Value.slice (some ⟨gd, 0, none⟩) nn cd) (Value.slice (some ⟨gw, 0, none⟩) ys.length cw) ss ys ((D.restartTo cs k).store x.1 (tornS ((D.restartTo cs k).at x.1) x.2 (q + 1) (by omega))) :=
                hR.poke (D' := (D.restartTo cs k).store x.1 (tornS ((D.restartTo cs k).at x.1) x.2 (q + 1) (by omega))) HSI.out q hq256 bq rfl rfl (by
                  rw [store_at, store_at, if_pos HI0.out, if_pos HI0.out]
                  exact (tornL_set _ _ q bq ((D.restartTo cs k).at x.1).2 x.2.2 hq256 hbq).symm) (fun j hj => by
                  rw [store_at, store_at, if_neg (by have := HI0.out; omega), if_neg (by have := HI0.out; omega)])
              have hgsT : gs0 ≠ tb := by
                rintro rfl
                obtain ⟨cs', h'⟩ := Own.typed hogs (b := gs0) rfl
                rw [hT] at h'; cases h'
              have HR1 := Lib.hid hR1
              have HB1 := Lib.hid (hF1.keep hB (by omega))
              have HZ1 := Lib.hid (hF1.keep hZ (by omega))
              have HT1 := Lib.hid (hF1.keep hT (by omega))
              have HG1 := Lib.hid (hG.trans hF1 (fun i hi e => by exfalso; omega))
              have HQ1 := Lib.hid (Nat.le_trans hQ hF1.size)
              have hnc : (q : Int) < 256 := by have := HFN.out; omega
              have hi0n : (i0 : Int) < (nn : Int) := by have := HI0N.out; omega
              have hqi : (q : Int) < 256 := by omega
              clear hR hB hZ hT hG hQ hbq hogs ho3 hb3 hdc hbo hgsB hs01 hs12 hF1 hR1 hgsT
              go_wp2_with fail
              refine rt 13 (by kernel_rfl) (by kernel_rfl) ?_
              simp only [List.take_succ_cons, List.take_zero, List.drop_succ_cons, List.drop_zero]
              iterate 13 still_step
              refine ws_nil ?_
              refine wu rfl (w' := (wr.setCell ⟨gs0, q, none⟩ (.int .u8 (bq.toNat : Int))).drew) (by unfold RunU; go_simp) ?_
              clear d0 d1 d2 d3 d4 d5 f5
              generalize wr.setCell ⟨gs0, q, none⟩ (.int .u8 (bq.toNat : Int)) = W8 at *
              go_wp2
              go_roundw
              case rel => exact ⟨q + 1, by omega, by omega, by go_num, HR1.out.fr ((Fr.refl Non W8).drew) (Apart.non _), HB1.out, HZ1.out, HT1.out, HG1.out.drew, HQ1.out⟩
              case measure => simp [intOf] <;> omega
            · obtain rfl : q = fateN c := by omega
              clear hR hB hZ hT hG hQ hlq
              have hfn := HFN.out
              go_wp2
              go_roundw
              case rel =>
                refine ⟨k + 1, by omega, by go_num, ?_, HBq.out, HZq.out, HGq.out, HQq.out⟩
                have e : D.restartTo cs (k + 1) = (D.restartTo cs k).store x.1 (tornS ((D.restartTo cs k).at x.1) x.2 (fateN c) hq) := by
                  conv => lhs; unfold Dsk.restartTo
                  rw [HX.out]
                  simp only [HCE.out, fateOf_torn]
                rw [e]
                exact HR.out
              case measure => simp [intOf] <;> omega

        · have hfn0 : (fateN c : Int) = (((c.toNat / 3 % 17 : Nat) : Int) * 16) := by
            unfold fateN
            simp only [hm]
            show ((tornN c : Nat) : Int) = _; unfold tornN; omega
          have HFN := Lib.hid hfn0
          have e3 : ((c.toNat : Int)).tmod 3 = 2 := by rw [htm, hm]; rfl
          clear hfn0 hm htm 
          go_wp2_with (first
        | (guard_target =~ wpList _ _ _ (⟨_, Op.load 92 _, _, _, _, _⟩ :: _) _ _; refine wl rfl (r_load (b := gw) (i := k * 2) rfl rfl HRW.out Try.underlying92 rfl (by rw [sz92]; rfl)) ?_)
        | (guard_target =~ wpList _ _ _ (⟨_, Op.alloc 92, _, _, _, _⟩ :: _) _ _; refine wl rfl (r_allocA rfl (zero92 _)) ?_)
        | (guard_target =~ wpList _ _ _ (⟨_, Op.store 92 _ _, _, _, _, _⟩ :: _) _ _; refine wu rfl (r_store_new (c' := (encW (x.1, (some ⟨g3, 0, none⟩, 256, cap3))).toArray) rfl rfl rfl (by rw [sz92]; rfl) rfl (all_oneCell_toArray (encW_one _))) ?_; rw [hWT, ← htb])
        | fail)
          clear c1
          rw [← htb]
          clear htb
          go_loopw [10] (fun u wq => ∃ q : Nat, ∃ hq : q ≤ 256, q ≤ fateN c ∧ u = .int .i64 q ∧ RefS wq w2.heap.size (Value.slice (some ⟨gd, 0, none⟩) nn cd) (Value.slice (some ⟨gw, 0, none⟩) ys.length cw) ss ys ((D.restartTo cs k).store x.1 (tornS ((D.restartTo cs k).at x.1) x.2 q hq)) ∧ wq.heap[w.heap.size]? = some (.cells (refL (Value.slice (some ⟨gd, 0, none⟩) nn cd) (Value.slice (some ⟨gw, 0, none⟩) ys.length cw) D).toArray 45) ∧
            wq.heap[w1.heap.size]? = some (.cells zref 45) ∧ wq.heap[tb]? = some (.cells (encW (x.1, (some ⟨g3, 0, none⟩, 256, cap3))).toArray 92) ∧ Fr Non w wq ∧ w2.heap.size ≤ wq.heap.size) (fun u _ => fateN c - (intOf u).toNat)
          case atStart =>
            refine ⟨0, by omega, by omega, rfl, HR0.out.to rfl rfl (fun i hi => ?_), HBT.out, HZT.out, HTB.out, HGT.out, HQT.out⟩
            rw [store_at]
            split
            · rename_i e; rw [e]; first | done | exact Subtype.ext (tornL_zero _ _)
            · rfl
          case round =>
            obtain ⟨q, hq, hqn, rfl, hR, hB, hZ, hT, hG, hQ⟩ := hrel
            have HR := Lib.hid hR
            have HBq := Lib.hid hB
            have HZq := Lib.hid hZ
            have HTq := Lib.hid hT
            have HGq := Lib.hid hG
            have HQq := Lib.hid hQ
            by_cases hlq : q < fateN c
            · have hq256 : q < 256 := by have := fateN_le c; omega
              obtain ⟨bq, hbq⟩ := sec_get x.2 q hq256
              obtain ⟨gs', cps', egs, hogs, -⟩ := hR.r.el i0 _ HSI.out
              cases egs
              obtain ⟨_, g3', cap3', e3, ho3, hb3⟩ := hR.w.el k _ x HY.out HX'.out
              cases e3
              obtain ⟨gd', cd', edv, hdc⟩ : ∃ gd' cd', (Value.slice (some ⟨gd, 0, none⟩) nn cd) = .slice (some ⟨gd', 0, none⟩) nn cd' ∧ ∀ (i : Nat) (s : Raw), ss[i]? = some s → wr.cell? ⟨gd', i, none⟩ = some (rawV s) := by
                refine ⟨gd, cd, rfl, fun i s hi => ?_⟩
                have := Own.elem elem30 hR.r.own hi 0 _ rfl
                simpa using this
              cases edv
              have d0 : wr.cell? ⟨w.heap.size, 0, none⟩ = some (Value.slice (some ⟨gd, 0, none⟩) nn cd) := cellOf hB 0 rfl
              have d1 : wr.cell? ⟨tb, 0, none⟩ = some (.int .i64 i0) := by rw [HI0.out]; exact cellOf hT 0 rfl
              have d2 : wr.cell? ⟨gd, i0, none⟩ = some (.slice (some ⟨gs0, 0, none⟩) 256 cps0) := hdc i0 _ HSI.out
              have d3 : wr.cell? ⟨tb, 1, none⟩ = some (.slice (some ⟨g3, 0, none⟩) 256 cap3) := cellOf hT 1 rfl
              have d4 : wr.cell? ⟨g3, q, none⟩ = some (.int .u8 (bq.toNat : Int)) := ho3.cell q bq hbq
              have hold := sec_get ((((D.restartTo cs k).store x.1 (tornS ((D.restartTo cs k).at x.1) x.2 q hq))).at i0) q hq256
              obtain ⟨bo, hbo⟩ := hold
              have d5 : wr.cell? ⟨gs0, q, none⟩ = some (.int .u8 (bo.toNat : Int)) := hogs.cell q bo hbo
              have f5 : wr.frozen? ⟨gs0, q, none⟩ = false := hogs.frozen q
              have hgsB : w2.heap.size ≤ gs0 := by obtain ⟨_, _, e, _, h⟩ := hR.r.el i0 _ HSI.out; cases e; exact h
              have hs01 : w.heap.size < w1.heap.size := by have := HS1.out; omega
              have hs12 : w1.heap.size < w2.heap.size := heap_lt HZ.out
              have hF1 : Fr (· = gs0) wr (wr.setCell ⟨gs0, q, none⟩ (.int .u8 (bq.toNat : Int))) := (Fr.refl (· = gs0) wr).setCell _ _ (fun _ => rfl)
              have hR1 : RefS (wr.setCell ⟨gs0, q, none⟩ (.int .u8 (bq.toNat : Int))) w2.heap.size (Value.slice (some ⟨gd, 0, none⟩) nn cd) (Value.slice (some ⟨gw, 0, none⟩) ys.length cw) ss ys ((D.restartTo cs k).store x.1 (tornS ((D.restartTo cs k).at x.1) x.2 (q + 1) (by omega))) :=
                hR.poke (D' := (D.restartTo cs k).store x.1 (tornS ((D.restartTo cs k).at x.1) x.2 (q + 1) (by omega))) HSI.out q hq256 bq rfl rfl (by
                  rw [store_at, store_at, if_pos HI0.out, if_pos HI0.out]
                  exact (tornL_set _ _ q bq ((D.restartTo cs k).at x.1).2 x.2.2 hq256 hbq).symm) (fun j hj => by
                  rw [store_at, store_at, if_neg (by have := HI0.out; omega), if_neg (by have := HI0.out; omega)])
              have hgsT : gs0 ≠ tb := by
                rintro rfl
                obtain ⟨cs', h'⟩ := Own.typed hogs (b := gs0) rfl
                rw [hT] at h'; cases h'
              have HR1 := Lib.hid hR1
              have HB1 := Lib.hid (hF1.keep hB (by omega))
              have HZ1 := Lib.hid (hF1.keep hZ (by omega))
              have HT1 := Lib.hid (hF1.keep hT (by omega))
              have HG1 := Lib.hid (hG.trans hF1 (fun i hi e => by exfalso; omega))
              have HQ1 := Lib.hid (Nat.le_trans hQ hF1.size)
              have hnc : (q : Int) < (((c.toNat / 3 % 17 : Nat) : Int) * 16) := by have := HFN.out; omega
              have hi0n : (i0 : Int) < (nn : Int) := by have := HI0N.out; omega
              have hqi : (q : Int) < 256 := by omega
              clear hR hB hZ hT hG hQ hbq hogs ho3 hb3 hdc hbo hgsB hs01 hs12 hF1 hR1 hgsT
              go_wp2_with fail
              refine rt 13 (by kernel_rfl) (by kernel_rfl) ?_
              simp only [List.take_succ_cons, List.take_zero, List.drop_succ_cons, List.drop_zero]
              iterate 13 still_step
              refine ws_nil ?_
              refine wu rfl (w' := (wr.setCell ⟨gs0, q, none⟩ (.int .u8 (bq.toNat : Int))).drew) (by unfold RunU; go_simp) ?_
              clear d0 d1 d2 d3 d4 d5 f5
              generalize wr.setCell ⟨gs0, q, none⟩ (.int .u8 (bq.toNat : Int)) = W8 at *
              go_wp2
              go_roundw
              case rel => exact ⟨q + 1, by omega, by omega, by go_num, HR1.out.fr ((Fr.refl Non W8).drew) (Apart.non _), HB1.out, HZ1.out, HT1.out, HG1.out.drew, HQ1.out⟩
              case measure => simp [intOf] <;> omega
            · obtain rfl : q = fateN c := by omega
              clear hR hB hZ hT hG hQ hlq
              have hfn := HFN.out
              go_wp2
              go_roundw
              case rel =>
                refine ⟨k + 1, by omega, by go_num, ?_, HBq.out, HZq.out, HGq.out, HQq.out⟩
                have e : D.restartTo cs (k + 1) = (D.restartTo cs k).store x.1 (tornS ((D.restartTo cs k).at x.1) x.2 (fateN c) hq) := by
                  conv => lhs; unfold Dsk.restartTo
                  rw [HX.out]
                  simp only [HCE.out, fateOf_torn]
                rw [e]
                exact HR.out
              case measure => simp [intOf] <;> omega

      · have hc0 : c = 0 := by rw [← hc]; simp [List.getD, List.getElem?_eq_none (show cs.length ≤ k by omega)]
        have hm : c.toNat % 3 = 0 := by rw [hc0]; rfl
        have hkc' : (cs.length : Int) ≤ (k : Int) := by omega
        clear hcell hkc hc0
        have hfn0 : (fateN c : Int) = 0 := by
          unfold fateN
          simp only [hm]
          rfl
        have HFN := Lib.hid hfn0
        have e3 : (0 : Int).tmod 3 = 0 := rfl
        clear hfn0 hm htm htd
        go_wp2_with (first
        | (guard_target =~ wpList _ _ _ (⟨_, Op.load 92 _, _, _, _, _⟩ :: _) _ _; refine wl rfl (r_load (b := gw) (i := k * 2) rfl rfl HRW.out Try.underlying92 rfl (by rw [sz92]; rfl)) ?_)
        | (guard_target =~ wpList _ _ _ (⟨_, Op.alloc 92, _, _, _, _⟩ :: _) _ _; refine wl rfl (r_allocA rfl (zero92 _)) ?_)
        | (guard_target =~ wpList _ _ _ (⟨_, Op.store 92 _ _, _, _, _, _⟩ :: _) _ _; refine wu rfl (r_store_new (c' := (encW (x.1, (some ⟨g3, 0, none⟩, 256, cap3))).toArray) rfl rfl rfl (by rw [sz92]; rfl) rfl (all_oneCell_toArray (encW_one _))) ?_; rw [hWT, ← htb])
        | fail)
        clear c1
        rw [← htb]
        clear htb
        go_loopw [10] (fun u wq => ∃ q : Nat, ∃ hq : q ≤ 256, q ≤ fateN c ∧ u = .int .i64 q ∧ RefS wq w2.heap.size (Value.slice (some ⟨gd, 0, none⟩) nn cd) (Value.slice (some ⟨gw, 0, none⟩) ys.length cw) ss ys ((D.restartTo cs k).store x.1 (tornS ((D.restartTo cs k).at x.1) x.2 q hq)) ∧ wq.heap[w.heap.size]? = some (.cells (refL (Value.slice (some ⟨gd, 0, none⟩) nn cd) (Value.slice (some ⟨gw, 0, none⟩) ys.length cw) D).toArray 45) ∧
          wq.heap[w1.heap.size]? = some (.cells zref 45) ∧ wq.heap[tb]? = some (.cells (encW (x.1, (some ⟨g3, 0, none⟩, 256, cap3))).toArray 92) ∧ Fr Non w wq ∧ w2.heap.size ≤ wq.heap.size) (fun u _ => fateN c - (intOf u).toNat)
        case atStart =>
          refine ⟨0, by omega, by omega, rfl, HR0.out.to rfl rfl (fun i hi => ?_), HBT.out, HZT.out, HTB.out, HGT.out, HQT.out⟩
          rw [store_at]
          split
          · rename_i e; rw [e]; first | done | exact Subtype.ext (tornL_zero _ _)
          · rfl
        case round =>
          obtain ⟨q, hq, hqn, rfl, hR, hB, hZ, hT, hG, hQ⟩ := hrel
          have HR := Lib.hid hR
          have HBq := Lib.hid hB
          have HZq := Lib.hid hZ
          have HTq := Lib.hid hT
          have HGq := Lib.hid hG
          have HQq := Lib.hid hQ
          by_cases hlq : q < fateN c
          · have hq256 : q < 256 := by have := fateN_le c; omega
            obtain ⟨bq, hbq⟩ := sec_get x.2 q hq256
            obtain ⟨gs', cps', egs, hogs, -⟩ := hR.r.el i0 _ HSI.out
            cases egs
            obtain ⟨_, g3', cap3', e3, ho3, hb3⟩ := hR.w.el k _ x HY.out HX'.out
            cases e3
            obtain ⟨gd', cd', edv, hdc⟩ : ∃ gd' cd', (Value.slice (some ⟨gd, 0, none⟩) nn cd) = .slice (some ⟨gd', 0, none⟩) nn cd' ∧ ∀ (i : Nat) (s : Raw), ss[i]? = some s → wr.cell? ⟨gd', i, none⟩ = some (rawV s) := by
              refine ⟨gd, cd, rfl, fun i s hi => ?_⟩
              have := Own.elem elem30 hR.r.own hi 0 _ rfl
              simpa using this
            cases edv
            have d0 : wr.cell? ⟨w.heap.size, 0, none⟩ = some (Value.slice (some ⟨gd, 0, none⟩) nn cd) := cellOf hB 0 rfl
            have d1 : wr.cell? ⟨tb, 0, none⟩ = some (.int .i64 i0) := by rw [HI0.out]; exact cellOf hT 0 rfl
            have d2 : wr.cell? ⟨gd, i0, none⟩ = some (.slice (some ⟨gs0, 0, none⟩) 256 cps0) := hdc i0 _ HSI.out
            have d3 : wr.cell? ⟨tb, 1, none⟩ = some (.slice (some ⟨g3, 0, none⟩) 256 cap3) := cellOf hT 1 rfl
            have d4 : wr.cell? ⟨g3, q, none⟩ = some (.int .u8 (bq.toNat : Int)) := ho3.cell q bq hbq
            have hold := sec_get ((((D.restartTo cs k).store x.1 (tornS ((D.restartTo cs k).at x.1) x.2 q hq))).at i0) q hq256
            obtain ⟨bo, hbo⟩ := hold
            have d5 : wr.cell? ⟨gs0, q, none⟩ = some (.int .u8 (bo.toNat : Int)) := hogs.cell q bo hbo
            have f5 : wr.frozen? ⟨gs0, q, none⟩ = false := hogs.frozen q
            have hgsB : w2.heap.size ≤ gs0 := by obtain ⟨_, _, e, _, h⟩ := hR.r.el i0 _ HSI.out; cases e; exact h
            have hs01 : w.heap.size < w1.heap.size := by have := HS1.out; omega
            have hs12 : w1.heap.size < w2.heap.size := heap_lt HZ.out
            have hF1 : Fr (· = gs0) wr (wr.setCell ⟨gs0, q, none⟩ (.int .u8 (bq.toNat : Int))) := (Fr.refl (· = gs0) wr).setCell _ _ (fun _ => rfl)
            have hR1 : RefS (wr.setCell ⟨gs0, q, none⟩ (.int .u8 (bq.toNat : Int))) w2.heap.size (Value.slice (some ⟨gd, 0, none⟩) nn cd) (Value.slice (some ⟨gw, 0, none⟩) ys.length cw) ss ys ((D.restartTo cs k).store x.1 (tornS ((D.restartTo cs k).at x.1) x.2 (q + 1) (by omega))) :=
              hR.poke (D' := (D.restartTo cs k).store x.1 (tornS ((D.restartTo cs k).at x.1) x.2 (q + 1) (by omega))) HSI.out q hq256 bq rfl rfl (by
                rw [store_at, store_at, if_pos HI0.out, if_pos HI0.out]
                exact (tornL_set _ _ q bq ((D.restartTo cs k).at x.1).2 x.2.2 hq256 hbq).symm) (fun j hj => by
                rw [store_at, store_at, if_neg (by have := HI0.out; omega), if_neg (by have := HI0.out; omega)])
            have hgsT : gs0 ≠ tb := by
              rintro rfl
              obtain ⟨cs', h'⟩ := Own.typed hogs (b := gs0) rfl
              rw [hT] at h'; cases h'
            have HR1 := Lib.hid hR1
            have HB1 := Lib.hid (hF1.keep hB (by omega))
            have HZ1 := Lib.hid (hF1.keep hZ (by omega))
            have HT1 := Lib.hid (hF1.keep hT (by omega))
            have HG1 := Lib.hid (hG.trans hF1 (fun i hi e => by exfalso; omega))
            have HQ1 := Lib.hid (Nat.le_trans hQ hF1.size)
            have hnc : (q : Int) < 0 := by have := HFN.out; omega
            have hi0n : (i0 : Int) < (nn : Int) := by have := HI0N.out; omega
            have hqi : (q : Int) < 256 := by omega
            clear hR hB hZ hT hG hQ hbq hogs ho3 hb3 hdc hbo hgsB hs01 hs12 hF1 hR1 hgsT
            go_wp2_with fail
            refine rt 13 (by kernel_rfl) (by kernel_rfl) ?_
            simp only [List.take_succ_cons, List.take_zero, List.drop_succ_cons, List.drop_zero]
            iterate 13 still_step
            refine ws_nil ?_
            refine wu rfl (w' := (wr.setCell ⟨gs0, q, none⟩ (.int .u8 (bq.toNat : Int))).drew) (by unfold RunU; go_simp) ?_
            clear d0 d1 d2 d3 d4 d5 f5
            generalize wr.setCell ⟨gs0, q, none⟩ (.int .u8 (bq.toNat : Int)) = W8 at *
            go_wp2
            go_roundw
            case rel => exact ⟨q + 1, by omega, by omega, by go_num, HR1.out.fr ((Fr.refl Non W8).drew) (Apart.non _), HB1.out, HZ1.out, HT1.out, HG1.out.drew, HQ1.out⟩
            case measure => simp [intOf] <;> omega
          · obtain rfl : q = fateN c := by omega
            clear hR hB hZ hT hG hQ hlq
            have hfn := HFN.out
            go_wp2
            go_roundw
            case rel =>
              refine ⟨k + 1, by omega, by go_num, ?_, HBq.out, HZq.out, HGq.out, HQq.out⟩
              have e : D.restartTo cs (k + 1) = (D.restartTo cs k).store x.1 (tornS ((D.restartTo cs k).at x.1) x.2 (fateN c) hq) := by
                conv => lhs; unfold Dsk.restartTo
                rw [HX.out]
                simp only [HCE.out, fateOf_torn]
              rw [e]
              exact HR.out
            case measure => simp [intOf] <;> omega

    · obtain rfl : k = ys.length := by omega
      obtain ⟨D', hD'⟩ : ∃ D' : Dsk, D' = D.restart cs := ⟨_, rfl⟩
      have hkp := restartTo_keeps D cs D.pend.length
      have hB1 : (((wr.setCell ⟨w.heap.size, 1, none⟩ (.slice none 0 0)).setCell ⟨w.heap.size, 3, none⟩ (.bool false)).setCell ⟨w.heap.size, 2, none⟩ (.int .i64 (-1))).heap[w.heap.size]? = some (.cells (refL (.slice (some ⟨gd, 0, none⟩) nn cd) (.slice none 0 0) D').toArray 45) := by
        rw [heap_setCell_at (heap_setCell_at (heap_setCell_at HBk.out _ _) _ _)]
        have e1 : D'.ops = D.ops := by rw [hD']; exact hkp.2.2.1
        have e2 : D'.lim = -1 := by rw [hD']; rfl
        have e3 : D'.down = false := by rw [hD']; rfl
        simp only [refL, e1, e2, e3]
        rfl
      have hF1 : Fr (· = w.heap.size) wr (((wr.setCell ⟨w.heap.size, 1, none⟩ (.slice none 0 0)).setCell ⟨w.heap.size, 3, none⟩ (.bool false)).setCell ⟨w.heap.size, 2, none⟩ (.int .i64 (-1))) := (((Fr.refl (· = w.heap.size) wr).setCell _ _ (fun _ => rfl)).setCell _ _ (fun _ => rfl)).setCell _ _ (fun _ => rfl)
      have hs01 : w.heap.size < w1.heap.size := by have := HS1.out; omega
      have hZ1 := hF1.keep HZk.out (by omega)
      have hAp : Apart wr (fun k => k = w.heap.size ∨ k = w1.heap.size) := by
        rintro j (rfl | rfl) cs
        · rw [HBk.out]; exact ⟨by simp, by simp, by simp⟩
        · rw [HZk.out]; exact ⟨by simp, by simp, by simp⟩
      have hFb : Fr (fun k => k = w.heap.size ∨ k = w1.heap.size) wr ((((wr.setCell ⟨w.heap.size, 1, none⟩ (.slice none 0 0)).setCell ⟨w.heap.size, 3, none⟩ (.bool false)).setCell ⟨w.heap.size, 2, none⟩ (.int .i64 (-1))).setCells w1.heap.size 0 (refL (.slice (some ⟨gd, 0, none⟩) nn cd) (.slice none 0 0) D')) := Fr.setCells _ (fun _ => .inr rfl) _ _ _ (hF1.mono (fun _ _ h => .inl h))
      have hfin : RefAt ((((wr.setCell ⟨w.heap.size, 1, none⟩ (.slice none 0 0)).setCell ⟨w.heap.size, 3, none⟩ (.bool false)).setCell ⟨w.heap.size, 2, none⟩ (.int .i64 (-1))).setCells w1.heap.size 0 (refL (.slice (some ⟨gd, 0, none⟩) nn cd) (.slice none 0 0) D')) (.slice (some ⟨gd, 0, none⟩) nn cd) (.slice none 0 0) D' := by
        have hR := HN.out.fr hFb hAp
        have hn : D'.n = D.n := by rw [hD']; exact hkp.2.1
        have hp : D'.pend = [] := by rw [hD']; rfl
        refine (RefNew.at (B := w2.heap.size) ⟨ss, [], ⟨hR.r.own, hR.r.vb, fun i s hi => ?_, hR.r.dj⟩, by rw [hn]; exact hR.n.trans (restartTo_keeps D cs ys.length).2.1, ?_, fun i j s y _ hy => (by cases hy)⟩)
        · obtain ⟨g, c, e, ho, hb⟩ := hR.r.el i s hi
          refine ⟨g, c, e, ?_, hb⟩
          have e1 : D'.at i = (D.restartTo cs ys.length).at i := by rw [hD', HYL.out]; rfl
          show OwnB _ _ (D'.at i).1
          rw [e1]; exact ho
        · rw [hp]; exact WrsAt.nil _ _
      have hone : ∀ v ∈ refL (.slice (some ⟨gd, 0, none⟩) nn cd) (.slice none 0 0) D', v.oneCell' = true := refL_one hfin D'
      have hFn : Fr Non w ((((wr.setCell ⟨w.heap.size, 1, none⟩ (.slice none 0 0)).setCell ⟨w.heap.size, 3, none⟩ (.bool false)).setCell ⟨w.heap.size, 2, none⟩ (.int .i64 (-1))).setCells w1.heap.size 0 (refL (.slice (some ⟨gd, 0, none⟩) nn cd) (.slice none 0 0) D')) := HG.out.trans hFb (fun i hi e => by rcases e with e | e <;> (exfalso; omega))
      have c2 : wr.cell? ⟨w.heap.size, 2, none⟩ = some (.int .i64 D.lim) := cellOf HBk.out 2 rfl
      have c3 : wr.cell? ⟨w.heap.size, 3, none⟩ = some (.bool D.down) := cellOf HBk.out 3 rfl
      have f1 : wr.frozen? ⟨w.heap.size, 1, none⟩ = false := frozenOf HBk.out 1
      have f2 : wr.frozen? ⟨w.heap.size, 2, none⟩ = false := frozenOf HBk.out 2
      have f3 : wr.frozen? ⟨w.heap.size, 3, none⟩ = false := frozenOf HBk.out 3
      have HR1 := Lib.hid (rangeAt_of hB1 0 (refL (.slice (some ⟨gd, 0, none⟩) nn cd) (.slice none 0 0) D') (by simp))
      have HT1 := Lib.hid (there45 hZ1 rfl)
      have HP1 := Lib.hid (put45 hZ1 rfl (l := refL (.slice (some ⟨gd, 0, none⟩) nn cd) (.slice none 0 0) D') rfl)
      have HFIN := Lib.hid (And.intro hfin hFn)
      have HONE := Lib.hid hone
      have HDD := Lib.hid hD'
      clear hB1 hF1 hs01 hZ1 hAp hFb hfin hone hFn hlt hk hkp hD'
      go_wp2_with (first
        | (guard_target =~ wpList _ _ _ (⟨_, Op.load 45 _, _, _, _, _⟩ :: _) _ _; refine wl rfl (r_load (b := w.heap.size) (i := 0) rfl rfl HR1.out Try.underlying45 rfl (by rw [sz45]; rfl)) ?_)
        | (guard_target =~ wpList _ _ _ (⟨_, Op.store 45 _ _, _, _, _, _⟩ :: _) _ _; refine wu rfl (r_store (b := w1.heap.size) (i := 0) (cs := refL (.slice (some ⟨gd, 0, none⟩) nn cd) (.slice none 0 0) D') rfl rfl rfl HT1.out (by rw [sz45]; rfl) HONE.out) ?_; generalize (((wr.setCell ⟨w.heap.size, 1, none⟩ (.slice none 0 0)).setCell ⟨w.heap.size, 3, none⟩ (.bool false)).setCell ⟨w.heap.size, 2, none⟩ (.int .i64 (-1))).setCells w1.heap.size 0 (refL (.slice (some ⟨gd, 0, none⟩) nn cd) (.slice none 0 0) D') = W9 at *)
        | fail)
      rw [← HDD.out]
      refine bodyPost_ret (results_cell_tmp rfl _ _ w1.heap.size 45 _ (0, 0) _ _ rfl HP1.out rfl Try.underlying45 rfl (by rw [sz45]; rfl)) rfl ⟨_, _, rfl, HFIN.out.1, HFIN.out.2⟩
end Go.Proofs.Yticgkbpmaakkiaa
