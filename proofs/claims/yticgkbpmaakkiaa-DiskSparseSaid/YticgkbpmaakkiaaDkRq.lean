/-
  The reference's Damage.
-/
import Derived.Test.YticgkbpmaakkiaaDkPq
import Derived.Test.YticgkbpmaakkiaaDkQq
namespace Go.Proofs.Yticgkbpmaakkiaa
open Go.RowKit

set_option maxRecDepth 100000 in
theorem RDamage_at (w : World) (dv wv : Value) (D : Dsk) (n i b : Int) (hD : Dok D) (h : RefAt w dv wv D) (hh : D.has n = true) (hi : i < 0 ∨ 256 ≤ i) :
    Calls Try.prog 50 #[.agg (refL dv wv D).toArray, .int .i64 n, .int .i64 i, .int .u8 b] w fun e w' => e = .returned (.tuple #[.agg (refL dv wv D).toArray, .int .i64 2]) ∧ Fr Non w w' := by
  obtain ⟨w1, w2, hw1, hw2, hs1, hs2, hb, hz, hF2, -, -⟩ := box2 w (refL dv wv D).toArray
  have c3 : w2.cell? ⟨w.heap.size, 3, none⟩ = some (.bool D.down) := cellOf hb 3 rfl
  clear c3
  have HR := Lib.hid (rangeAt_of hb 0 (refL dv wv D) (by simp))
  have HB := Lib.hid hb
  have HZ := Lib.hid hz
  have HF2 := Lib.hid hF2
  have HH := Lib.hid h
  have HS1 := Lib.hid hs1
  clear hs1 hs2 hb hz hF2 h
  have HR3 := Lib.hid hi
  clear hi
  rcases HR3.out with hi | hi
  · go_enter Try.func50, Try.ntmps50
    go_wp2_with (first
    | (guard_target =~ wpList _ _ _ (⟨_, Op.box 45 _, _, _, _, _⟩ :: _) _ _; refine wl rfl (r_boxA rfl rfl) ?_; rw [hw1])
    | (guard_target =~ wpList _ _ _ (⟨_, Op.alloc 45, _, _, _, _⟩ :: _) _ _; refine wl rfl (r_allocA rfl (zero45 _)) ?_; rw [hw2])
    | (guard_target =~ wpList _ _ _ (⟨_, Op.load 45 _, _, _, _, _⟩ :: _) _ w2; refine wl rfl (r_load (b := w.heap.size) (i := 0) rfl rfl HR.out Try.underlying45 rfl (by rw [sz45]; rfl)) ?_)
    | (go_at_call 62; refine (is_c w2 dv wv D n hD (HH.out.non HF2.out)).mono ?_; rintro e w3 ⟨rfl, hF3⟩; have HF3 := Lib.hid (HF2.out.trans hF3 (fun _ _ h => h)); have HB3 := Lib.hid (hF3.keep HB.out (fun h => h)); have HZ3 := Lib.hid (hF3.keep HZ.out (fun h => h)); clear hF3)
    | (guard_target =~ wpList _ _ _ (⟨_, Op.load 45 _, _, _, _, _⟩ :: _) _ w3; refine wl rfl (r_load (b := w.heap.size) (i := 0) rfl rfl (rangeAt_of HB3.out 0 (refL dv wv D) (by simp)) Try.underlying45 rfl (by rw [sz45]; rfl)) ?_)
    | (guard_target =~ wpList _ _ _ (⟨_, Op.store 45 _ _, _, _, _, _⟩ :: _) _ w3; refine wu rfl (r_store (b := w1.heap.size) (i := 0) (cs := refL dv wv D) rfl rfl rfl (there45 HZ3.out rfl) (by rw [sz45]; rfl) (refL_one HH.out D)) ?_)
    | fail)
    exact bodyPost_ret (results_cell_tmp rfl _ _ w1.heap.size 45 _ (0, 0) _ _ rfl (put45 HZ3.out rfl rfl) rfl Try.underlying45 rfl (by rw [sz45]; rfl)) rfl ⟨rfl, Fr.setCells _ (fun h => by have := HS1.out; omega) _ _ _ HF3.out⟩
  · have h0i : 0 ≤ i := by omega
    go_enter Try.func50, Try.ntmps50
    go_wp2_with (first
    | (guard_target =~ wpList _ _ _ (⟨_, Op.box 45 _, _, _, _, _⟩ :: _) _ _; refine wl rfl (r_boxA rfl rfl) ?_; rw [hw1])
    | (guard_target =~ wpList _ _ _ (⟨_, Op.alloc 45, _, _, _, _⟩ :: _) _ _; refine wl rfl (r_allocA rfl (zero45 _)) ?_; rw [hw2])
    | (guard_target =~ wpList _ _ _ (⟨_, Op.load 45 _, _, _, _, _⟩ :: _) _ w2; refine wl rfl (r_load (b := w.heap.size) (i := 0) rfl rfl HR.out Try.underlying45 rfl (by rw [sz45]; rfl)) ?_)
    | (go_at_call 62; refine (is_c w2 dv wv D n hD (HH.out.non HF2.out)).mono ?_; rintro e w3 ⟨rfl, hF3⟩; have HF3 := Lib.hid (HF2.out.trans hF3 (fun _ _ h => h)); have HB3 := Lib.hid (hF3.keep HB.out (fun h => h)); have HZ3 := Lib.hid (hF3.keep HZ.out (fun h => h)); clear hF3)
    | (guard_target =~ wpList _ _ _ (⟨_, Op.load 45 _, _, _, _, _⟩ :: _) _ w3; refine wl rfl (r_load (b := w.heap.size) (i := 0) rfl rfl (rangeAt_of HB3.out 0 (refL dv wv D) (by simp)) Try.underlying45 rfl (by rw [sz45]; rfl)) ?_)
    | (guard_target =~ wpList _ _ _ (⟨_, Op.store 45 _ _, _, _, _, _⟩ :: _) _ w3; refine wu rfl (r_store (b := w1.heap.size) (i := 0) (cs := refL dv wv D) rfl rfl rfl (there45 HZ3.out rfl) (by rw [sz45]; rfl) (refL_one HH.out D)) ?_)
    | fail)
    exact bodyPost_ret (results_cell_tmp rfl _ _ w1.heap.size 45 _ (0, 0) _ _ rfl (put45 HZ3.out rfl rfl) rfl Try.underlying45 rfl (by rw [sz45]; rfl)) rfl ⟨rfl, Fr.setCells _ (fun h => by have := HS1.out; omega) _ _ _ HF3.out⟩

set_option maxRecDepth 100000 in
set_option maxHeartbeats 2000000 in
theorem RDamage_ok (w : World) (dv wv : Value) (D : Dsk) (n : Int) (i : Nat) (b : UInt8) (hD : Dok D) (h : RefAt w dv wv D) (hh : D.has n = true) (hi : i < 256) :
    Calls Try.prog 50 #[.agg (refL dv wv D).toArray, .int .i64 n, .int .i64 i, .int .u8 b.toNat] w fun e w' => ∃ dv' wv', e = .returned (.tuple #[.agg (refL dv' wv' (D.damage n i b)).toArray, .int .i64 0]) ∧ RefAt w' dv' wv' (D.damage n i b) ∧ Fr Non w w' := by
  obtain ⟨w1, w2, hw1, hw2, hs1, hs2, hb, hz, hF2, -, -⟩ := box2 w (refL dv wv D).toArray
  have c3 : w2.cell? ⟨w.heap.size, 3, none⟩ = some (.bool D.down) := cellOf hb 3 rfl
  clear c3
  have HR := Lib.hid (rangeAt_of hb 0 (refL dv wv D) (by simp))
  have HB := Lib.hid hb
  have HZ := Lib.hid hz
  have HF2 := Lib.hid hF2
  have HH := Lib.hid h
  have HS1 := Lib.hid hs1
  clear hs1 hs2 hb hz hF2 h
  have hii : (i : Int) < 256 := by omega
  have hhn : 0 ≤ n ∧ n < D.n := by unfold Dsk.has at hh; exact of_decide_eq_true hh
  have HHN := Lib.hid hhn
  clear hhn
  go_enter Try.func50, Try.ntmps50
  go_wp2_with (first
    | (guard_target =~ wpList _ _ _ (⟨_, Op.box 45 _, _, _, _, _⟩ :: _) _ _; refine wl rfl (r_boxA rfl rfl) ?_; rw [hw1])
    | (guard_target =~ wpList _ _ _ (⟨_, Op.alloc 45, _, _, _, _⟩ :: _) _ _; refine wl rfl (r_allocA rfl (zero45 _)) ?_; rw [hw2])
    | (guard_target =~ wpList _ _ _ (⟨_, Op.load 45 _, _, _, _, _⟩ :: _) _ w2; refine wl rfl (r_load (b := w.heap.size) (i := 0) rfl rfl HR.out Try.underlying45 rfl (by rw [sz45]; rfl)) ?_)
    | (go_at_call 62; refine (is_c w2 dv wv D n hD (HH.out.non HF2.out)).mono ?_; rintro e w3 ⟨rfl, hF3⟩; have HF3 := Lib.hid (HF2.out.trans hF3 (fun _ _ h => h)); have HB3 := Lib.hid (hF3.keep HB.out (fun h => h)); have HZ3 := Lib.hid (hF3.keep HZ.out (fun h => h)); clear hF3)
    | (guard_target =~ wpList _ _ _ (⟨_, Op.load 45 _, _, _, _, _⟩ :: _) _ w3; refine wl rfl (r_load (b := w.heap.size) (i := 0) rfl rfl (rangeAt_of HB3.out 0 (refL dv wv D) (by simp)) Try.underlying45 rfl (by rw [sz45]; rfl)) ?_)
    | (go_at_call 46; refine (Copy_ref w3 dv wv D hD (HH.out.non HF3.out)).mono ?_; rintro e w4 ⟨dv', wv', rfl, hN4, hF4⟩; have HN4 := Lib.hid hN4; have HF4 := Lib.hid (HF3.out.trans hF4 (fun _ _ h => h)); have HQ4 := Lib.hid hF4.size; have HB4 := Lib.hid (hF4.keep HB3.out (fun h => h)); have HZ4 := Lib.hid (hF4.keep HZ3.out (fun h => h)); clear hN4 hF4)
    | (guard_target =~ wpList _ _ _ (⟨_, Op.store 45 _ _, _, _, _, _⟩ :: _) _ w4; refine wu rfl (r_store (b := w.heap.size) (i := 0) (cs := refL dv' wv' D) rfl rfl rfl (there45 HB4.out rfl) (by rw [sz45]; rfl) (refL_one HN4.out.at D)) ?_; obtain ⟨W5, hW5⟩ : ∃ W, w4.setCells w.heap.size 0 (refL dv' wv' D) = W := ⟨_, rfl⟩; rw [hW5]; have HW5 := Lib.hid hW5; clear hW5)
    | fail)
  have hs01 : w.heap.size < w1.heap.size := by have := HS1.out; omega
  have hs13 : w1.heap.size < w3.heap.size := heap_lt HZ3.out
  have hF6 : Fr (· = w.heap.size) w4 W5 := by rw [← HW5.out]; exact Fr.setCells (S := (· = w.heap.size)) _ (fun _ => rfl) _ _ _ (Fr.refl _ _)
  have hA6 : Apart w4 (· = w.heap.size) := by
    rintro k rfl cs
    rw [HB4.out]; exact ⟨by simp, by simp, by simp⟩
  obtain ⟨ss, ys, hS6⟩ := RefNew.s (HN4.out.fr hF6 hA6)
  have hB6 : W5.heap[w.heap.size]? = some (.cells (refL dv' wv' D).toArray 45) := by rw [← HW5.out]; exact put45 HB4.out rfl (l := refL dv' wv' D) rfl
  have hZ6 := hF6.keep HZ4.out (by omega)
  have hG6 : Fr Non w W5 := HF4.out.trans hF6 (fun i hi e => by exfalso; omega)
  obtain ⟨gd, cd, nn, hdv, hn0, hnn⟩ : ∃ gd cd nn, dv' = .slice (some ⟨gd, 0, none⟩) nn cd ∧ (nn : Int) = D.n ∧ nn = ss.length := by
    obtain ⟨a, cap, rfl, _, hnil, hag⟩ := Own.shape hS6.r.own
    cases a with
    | none => have := hnil rfl; have h2 := hS6.n; rw [this] at h2; simp at h2; have := hD.n0; omega
    | some ad =>
      obtain ⟨g, rfl⟩ := hag ad rfl
      exact ⟨g, cap, _, rfl, hS6.n, rfl⟩
  subst hdv
  obtain ⟨aw, cw, rfl, -, -, hagw⟩ := Own.shape hS6.w.own
  have hn1 : nn ≤ 4096 := by have := hD.n1; omega
  have hyl : ys.length = D.pend.length := hS6.w.len
  have hyb : ys.length ≤ 50000 := by have := hD.len; omega
  have hQ6 : w3.heap.size ≤ W5.heap.size := Nat.le_trans HQ4.out hF6.size
  -- the sector
  obtain ⟨i0, rfl⟩ : ∃ i0 : Nat, n = i0 := ⟨n.toNat, by have := HHN.out; omega⟩
  have hi0n : i0 < nn := by have := HHN.out; omega
  obtain ⟨s0, hs0⟩ : ∃ s, ss[i0]? = some s := ⟨_, List.getElem?_eq_getElem (by omega)⟩
  obtain ⟨gs0, cps0, rfl, hogs, hgsB⟩ := hS6.r.el i0 s0 hs0
  obtain ⟨bo, hbo⟩ := sec_get (D.at i0) i hi
  have d0 : W5.cell? ⟨w.heap.size, 0, none⟩ = some (.slice (some ⟨gd, 0, none⟩) nn cd) := cellOf hB6 0 rfl
  have d2 : W5.cell? ⟨gd, i0, none⟩ = some (.slice (some ⟨gs0, 0, none⟩) 256 cps0) := by have := Own.elem elem30 hS6.r.own hs0 0 _ rfl; simp only [Nat.mul_one, Nat.add_zero] at this; exact this
  have d5 : W5.cell? ⟨gs0, i, none⟩ = some (.int .u8 (bo.toNat : Int)) := hogs.cell i bo hbo
  have f5 : W5.frozen? ⟨gs0, i, none⟩ = false := hogs.frozen i
  have hxr := xor8 bo b
  have hF7 : Fr (· = gs0) W5 (W5.setCell ⟨gs0, i, none⟩ (.int .u8 ((bo ^^^ b).toNat : Int))) := (Fr.refl (· = gs0) W5).setCell _ _ (fun _ => rfl)
  have hS7 : RefS (W5.setCell ⟨gs0, i, none⟩ (.int .u8 ((bo ^^^ b).toNat : Int))) w3.heap.size (.slice (some ⟨gd, 0, none⟩) nn cd) (.slice aw ys.length cw) ss ys (D.damageTo i0 i b 0) :=
    hS6.poke (D' := D.damageTo i0 i b 0) hs0 i hi (bo ^^^ b) rfl rfl (by
      show ((D.store i0 (xorAt (D.at i0) i b)).at i0).1 = _
      rw [store_at, if_pos rfl, xorAt_set _ _ _ _ hbo]) (fun j hj => by
      show (D.store i0 (xorAt (D.at i0) i b)).at j = _
      rw [store_at, if_neg (by omega)])
  have H7 := Lib.hid (show RefS (W5.setCell ⟨gs0, i, none⟩ (.int .u8 ((bo ^^^ b).toNat : Int))) w3.heap.size (.slice (some ⟨gd, 0, none⟩) nn cd) (.slice aw ys.length cw) ss ys (D.damageTo i0 i b 0) ∧ (W5.setCell ⟨gs0, i, none⟩ (.int .u8 ((bo ^^^ b).toNat : Int))).heap[w.heap.size]? = some (.cells (refL (.slice (some ⟨gd, 0, none⟩) nn cd) (.slice aw ys.length cw) D).toArray 45) ∧ (W5.setCell ⟨gs0, i, none⟩ (.int .u8 ((bo ^^^ b).toNat : Int))).heap[w1.heap.size]? = some (.cells zref 45) ∧ Fr Non w (W5.setCell ⟨gs0, i, none⟩ (.int .u8 ((bo ^^^ b).toNat : Int))) ∧ w3.heap.size ≤ (W5.setCell ⟨gs0, i, none⟩ (.int .u8 ((bo ^^^ b).toNat : Int))).heap.size from
    ⟨hS7, hF7.keep hB6 (by omega), hF7.keep hZ6 (by omega), hG6.trans hF7 (fun i hi e => by exfalso; omega), Nat.le_trans hQ6 hF7.size⟩)
  have HN0 := Lib.hid hn0
  have HNN := Lib.hid hnn
  have HYL := Lib.hid hyl
  have HAGW := Lib.hid hagw
  have hi0i : (i0 : Int) < (nn : Int) := by omega
  clear hS6 hB6 hZ6 hG6 hF6 hA6 hn0 hs01 hs13 hnn hyl hagw hQ6 hs0 hogs hgsB hbo hF7 hS7 hi0n
  refine rt 17 (by kernel_rfl) (by kernel_rfl) ?_
  simp only [List.take_succ_cons, List.take_zero, List.drop_succ_cons, List.drop_zero]
  iterate 17 still_step
  refine ws_nil ?_
  refine wu rfl (w' := (W5.setCell ⟨gs0, i, none⟩ (.int .u8 ((bo ^^^ b).toNat : Int))).drew) (by unfold RunU; go_simp) ?_
  clear d0 d2 d5 f5 hxr
  generalize W5.setCell ⟨gs0, i, none⟩ (.int .u8 ((bo ^^^ b).toNat : Int)) = W8 at *
  go_wp2
  go_loopw [10] (fun u wr => ∃ k : Nat, k ≤ ys.length ∧ u = .int .i64 k ∧ RefS wr w3.heap.size (.slice (some ⟨gd, 0, none⟩) nn cd) (.slice aw ys.length cw) ss ys (D.damageTo i0 i b k) ∧ wr.heap[w.heap.size]? = some (.cells (refL (.slice (some ⟨gd, 0, none⟩) nn cd) (.slice aw ys.length cw) D).toArray 45) ∧ wr.heap[w1.heap.size]? = some (.cells zref 45) ∧ Fr Non w wr ∧ w3.heap.size ≤ wr.heap.size) (fun u _ => ys.length - (intOf u).toNat)
  case atStart => exact ⟨0, Nat.zero_le _, rfl, H7.out.1.fr ((Fr.refl Non W8).drew) (Apart.non _), H7.out.2.1, H7.out.2.2.1, H7.out.2.2.2.1.drew, H7.out.2.2.2.2⟩
  case round =>
    obtain ⟨k, hk, rfl, hR, hB, hZ, hG, hQ⟩ := hrel
    have c1 : wr.cell? ⟨w.heap.size, 1, none⟩ = some (.slice aw ys.length cw) := cellOf hB 1 rfl
    by_cases hlt : k < ys.length
    · obtain ⟨y, hy⟩ : ∃ y, ys[k]? = some y := ⟨_, List.getElem?_eq_getElem hlt⟩
      obtain ⟨x, hx⟩ : ∃ x, D.pend[k]? = some x := ⟨_, List.getElem?_eq_getElem (by have := HYL.out; omega)⟩
      have hgx := damageTo_get D i0 i b k x hx
      obtain ⟨ey, g3, cap3, ey2, ho3, hb3⟩ := hR.w.el k y x hy hgx
      obtain ⟨y1, y2⟩ := y
      simp only at ey ey2
      subst ey ey2
      obtain ⟨gw, rfl⟩ : ∃ gw, aw = some ⟨gw, 0, none⟩ := by
        cases aw with
        | none =>
          rcases hR.w.own.2 with ⟨hh, h0⟩ | ⟨g', cap', cur, hv', _⟩
          · rw [h0] at hlt; omega
          · cases hv'
        | some ad => obtain ⟨g, e⟩ := HAGW.out ad rfl; exact ⟨g, by rw [e]⟩
      have hrw := Own.elem elem92 hR.w.own hy
      have g0 : wr.cell? ⟨gw, k * 2, none⟩ = some (.int .i64 x.1) := by have := hrw 0 _ rfl; simpa using this
      have g1 : wr.cell? ⟨gw, k * 2 + 1, none⟩ = some (.slice (some ⟨g3, 0, none⟩) 256 cap3) := hrw 1 _ rfl
      obtain ⟨c', hc'⟩ := sec_get x.2 i hi
      have g2 : wr.cell? ⟨g3, i, none⟩ = some (.int .u8 (c'.toNat : Int)) := ho3.cell i c' hc'
      have gf : wr.frozen? ⟨g3, i, none⟩ = false := ho3.frozen i
      have hxr' := xor8 c' b
      have hsucc := damageTo_succ D i0 i b k x hx
      have hF9 : Fr (· = g3) wr (wr.setCell ⟨g3, i, none⟩ (.int .u8 ((c' ^^^ b).toNat : Int))) := (Fr.refl (· = g3) wr).setCell _ _ (fun _ => rfl)
      have hs01 : w.heap.size < w1.heap.size := by have := HS1.out; omega
      have hs13 : w1.heap.size < w3.heap.size := heap_lt HZ3.out
      by_cases hxn : x.1 = (i0 : Int)
      · have hdm : dmg i0 i b x = (x.1, xorAt x.2 i b) := if_pos hxn
        have hR9 : RefS (wr.setCell ⟨g3, i, none⟩ (.int .u8 ((c' ^^^ b).toNat : Int))) w3.heap.size (.slice (some ⟨gd, 0, none⟩) nn cd) (.slice (some ⟨gw, 0, none⟩) ys.length cw) ss ys (D.damageTo i0 i b (k + 1)) :=
          hR.pokeW (D' := D.damageTo i0 i b (k + 1)) hy rfl hgx i hi (c' ^^^ b) (xorAt x.2 i b) (xorAt_set _ _ _ _ hc') rfl (by rw [hsucc, hdm]) (fun j => rfl)
        have H9 := Lib.hid (show RefS (wr.setCell ⟨g3, i, none⟩ (.int .u8 ((c' ^^^ b).toNat : Int))) w3.heap.size (.slice (some ⟨gd, 0, none⟩) nn cd) (.slice (some ⟨gw, 0, none⟩) ys.length cw) ss ys (D.damageTo i0 i b (k + 1)) ∧ (wr.setCell ⟨g3, i, none⟩ (.int .u8 ((c' ^^^ b).toNat : Int))).heap[w.heap.size]? = some (.cells (refL (.slice (some ⟨gd, 0, none⟩) nn cd) (.slice (some ⟨gw, 0, none⟩) ys.length cw) D).toArray 45) ∧ (wr.setCell ⟨g3, i, none⟩ (.int .u8 ((c' ^^^ b).toNat : Int))).heap[w1.heap.size]? = some (.cells zref 45) ∧ Fr Non w (wr.setCell ⟨g3, i, none⟩ (.int .u8 ((c' ^^^ b).toNat : Int))) ∧ w3.heap.size ≤ (wr.setCell ⟨g3, i, none⟩ (.int .u8 ((c' ^^^ b).toNat : Int))).heap.size from
          ⟨hR9, hF9.keep hB (by omega), hF9.keep hZ (by omega), hG.trans hF9 (fun i hi e => by exfalso; omega), Nat.le_trans hQ hF9.size⟩)
        have hxb : (x.1 == (i0 : Int)) = true := beq_iff_eq.2 hxn
        clear hR hB hZ hG hQ hx hgx ho3 hb3 hrw hc' hsucc hF9 hs01 hs13 hdm hR9 hxn hy
        go_wp2_with fail
        refine rt 19 (by kernel_rfl) (by kernel_rfl) ?_
        simp only [List.take_succ_cons, List.take_zero, List.drop_succ_cons, List.drop_zero]
        iterate 19 still_step
        refine ws_nil ?_
        refine wu rfl (w' := (wr.setCell ⟨g3, i, none⟩ (.int .u8 ((c' ^^^ b).toNat : Int))).drew) (by unfold RunU; go_simp) ?_
        clear c1 g0 g1 g2 gf hxr'
        generalize wr.setCell ⟨g3, i, none⟩ (.int .u8 ((c' ^^^ b).toNat : Int)) = W9 at *
        go_wp2
        go_roundw
        case rel => exact ⟨k + 1, by omega, by go_num, H9.out.1.fr ((Fr.refl Non W9).drew) (Apart.non _), H9.out.2.1, H9.out.2.2.1, H9.out.2.2.2.1.drew, H9.out.2.2.2.2⟩
        case measure => simp [intOf] <;> omega
      · have hdm : dmg i0 i b x = x := if_neg hxn
        have hR9 : RefS wr w3.heap.size (.slice (some ⟨gd, 0, none⟩) nn cd) (.slice (some ⟨gw, 0, none⟩) ys.length cw) ss ys (D.damageTo i0 i b (k + 1)) := by
          have : (D.damageTo i0 i b (k + 1)).pend = (D.damageTo i0 i b k).pend := by
            rw [hsucc, hdm]
            apply List.ext_getElem?
            intro q
            rw [List.getElem?_set]
            split
            · rename_i e; subst e; rw [hgx]; split <;> first | rfl | (rename_i h2; exact absurd ((List.getElem?_eq_some_iff.1 hgx).1) h2)
            · rfl
          exact hR.to rfl this (fun j _ => rfl)
        have H9 := Lib.hid (show RefS wr w3.heap.size (.slice (some ⟨gd, 0, none⟩) nn cd) (.slice (some ⟨gw, 0, none⟩) ys.length cw) ss ys (D.damageTo i0 i b (k + 1)) ∧ wr.heap[w.heap.size]? = some (.cells (refL (.slice (some ⟨gd, 0, none⟩) nn cd) (.slice (some ⟨gw, 0, none⟩) ys.length cw) D).toArray 45) ∧ wr.heap[w1.heap.size]? = some (.cells zref 45) ∧ Fr Non w wr ∧ w3.heap.size ≤ wr.heap.size from ⟨hR9, hB, hZ, hG, hQ⟩)
        have hxb : (x.1 == (i0 : Int)) = false := beq_eq_false_iff_ne.2 hxn
        clear hR hB hZ hG hQ hx hgx ho3 hb3 hrw hc' hsucc hF9 hs01 hs13 hdm hR9 hxn hy
        go_wp2
        go_roundw
        case rel => exact ⟨k + 1, by omega, by go_num, H9.out⟩
        case measure => simp [intOf] <;> omega
    · obtain rfl : k = ys.length := by omega
      have hfin : D.damageTo i0 i b ys.length = D.damage i0 i b := by
        unfold Dsk.damageTo Dsk.damage
        rw [HYL.out, List.take_length, List.drop_length, List.append_nil]
      rw [hfin] at hR
      have hs01 : w.heap.size < w1.heap.size := by have := HS1.out; omega
      have hAp : Apart wr (fun k => k = w1.heap.size) := by
        rintro j rfl cs
        rw [hZ]; exact ⟨by simp, by simp, by simp⟩
      have hFb : Fr (fun k => k = w1.heap.size) wr (wr.setCells w1.heap.size 0 (refL (.slice (some ⟨gd, 0, none⟩) nn cd) (.slice aw ys.length cw) D)) := Fr.setCells (S := fun k => k = w1.heap.size) _ (fun _ => rfl) _ _ _ (Fr.refl _ _)
      have HR1 := Lib.hid (rangeAt_of hB 0 (refL (.slice (some ⟨gd, 0, none⟩) nn cd) (.slice aw ys.length cw) D) (by simp))
      have HT1 := Lib.hid (there45 hZ rfl)
      have HP1 := Lib.hid (put45 hZ rfl (l := refL (.slice (some ⟨gd, 0, none⟩) nn cd) (.slice aw ys.length cw) D) rfl)
      have HFIN := Lib.hid (And.intro (hR.fr hFb hAp).new.at (hG.trans hFb (fun i hi e => by exfalso; omega)))
      have HONE := Lib.hid (refL_one hR.new.at D)
      clear hR hB hZ hG hQ hfin hs01 hAp hFb hlt hk
      go_wp2_with (first
        | (guard_target =~ wpList _ _ _ (⟨_, Op.load 45 _, _, _, _, _⟩ :: _) _ _; refine wl rfl (r_load (b := w.heap.size) (i := 0) rfl rfl HR1.out Try.underlying45 rfl (by rw [sz45]; rfl)) ?_)
        | (guard_target =~ wpList _ _ _ (⟨_, Op.store 45 _ _, _, _, _, _⟩ :: _) _ _; refine wu rfl (r_store (b := w1.heap.size) (i := 0) (cs := refL (.slice (some ⟨gd, 0, none⟩) nn cd) (.slice aw ys.length cw) D) rfl rfl rfl HT1.out (by rw [sz45]; rfl) HONE.out) ?_; generalize wr.setCells w1.heap.size 0 (refL (.slice (some ⟨gd, 0, none⟩) nn cd) (.slice aw ys.length cw) D) = W9 at *)
        | fail)
      refine bodyPost_ret (results_cell_tmp rfl _ _ w1.heap.size 45 _ (0, 0) _ _ rfl HP1.out rfl Try.underlying45 rfl (by rw [sz45]; rfl)) rfl ⟨_, _, rfl, HFIN.out.1, HFIN.out.2⟩
end Go.Proofs.Yticgkbpmaakkiaa
