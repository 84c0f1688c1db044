/-
  The reference's Write, where it writes.
-/
import Derived.Test.YticgkbpmaakkiaaDkLq
namespace Go.Proofs.Yticgkbpmaakkiaa
open Go.RowKit

/-- A state stored in the one block and then in the other. -/
theorem two45 {W0 : World} {b0 b1 : Nat} {o0 o1 : Array Value} (h0 : W0.heap[b0]? = some (.cells o0 45)) (h1 : W0.heap[b1]? = some (.cells o1 45)) (hne : b0 ≠ b1) (s0 : o0.size = 5) (s1 : o1.size = 5) {L : List Value} (hL : L.length = 5) :
    W0.there b0 0 5 ∧ (W0.setCells b0 0 L).rangeAt b0 0 L ∧ (W0.setCells b0 0 L).there b1 0 5 ∧ ((W0.setCells b0 0 L).setCells b1 0 L).heap[b1]? = some (.cells L.toArray 45) ∧
    Fr (fun k => k = b0 ∨ k = b1) W0 ((W0.setCells b0 0 L).setCells b1 0 L) ∧ Apart W0 (fun k => k = b0 ∨ k = b1) := by
  have hp := put45 h0 s0 hL
  have hF : Fr (· = b0) W0 (W0.setCells b0 0 L) := Fr.setCells (S := (· = b0)) _ (fun _ => rfl) _ _ _ (Fr.refl _ _)
  have h1' := hF.keep h1 (by omega)
  refine ⟨there45 h0 s0, rangeAt_of hp 0 L (by simp), there45 h1' s1, put45 h1' s1 hL, Fr.setCells _ (fun _ => .inr rfl) _ _ _ (hF.mono (fun _ _ h => .inl h)), ?_⟩
  rintro k (rfl | rfl) cs
  · rw [h0]; exact ⟨by simp, by simp, by simp⟩
  · rw [h1]; exact ⟨by simp, by simp, by simp⟩

set_option maxRecDepth 100000 in
set_option maxHeartbeats 1000000 in
theorem RWrite_spent (w : World) (dv wv : Value) (D : Dsk) (n : Int) (a : Option Addr) (c : Nat) (hD : Dok D) (h : RefAt w dv wv D) (hd : D.down = false) (hh : D.has n = true) (hs : D.spent = true) :
    Calls Try.prog 47 #[.agg (refL dv wv D).toArray, .int .i64 n, .slice a 256 c] w fun e w' => ∃ dv' wv', e = .returned (.tuple #[.agg (refL dv' wv' { D with down := true }).toArray, .int .i64 28]) ∧ RefAt w' dv' wv' { D with down := true } ∧ Fr Non w w' := by
  obtain ⟨w1, w2, hw1, hw2, hs1, hs2, hb, hz, hF2, -, -⟩ := box2 w (refL dv wv D).toArray
  have c3 : w2.cell? ⟨w.heap.size, 3, none⟩ = some (.bool D.down) := cellOf hb 3 rfl
  rw [hd] at c3
  have HR := Lib.hid (rangeAt_of hb 0 (refL dv wv D) (by simp))
  have HB := Lib.hid hb
  have HZ := Lib.hid hz
  have HF2 := Lib.hid hF2
  have HH := Lib.hid h
  have HS1 := Lib.hid hs1
  clear hs1 hs2 hb hz hF2 h
  go_enter Try.func47, Try.ntmps47
  go_wp2_with (first
    | (guard_target =~ wpList _ _ _ (⟨_, Op.box 45 _, _, _, _, _⟩ :: _) _ _; refine wl rfl (r_boxA rfl rfl) ?_; rw [hw1])
    | (guard_target =~ wpList _ _ _ (⟨_, Op.alloc 45, _, _, _, _⟩ :: _) _ _; refine wl rfl (r_allocA rfl (zero45 _)) ?_; rw [hw2])
    | (guard_target =~ wpList _ _ _ (⟨_, Op.load 45 _, _, _, _, _⟩ :: _) _ w2; refine wl rfl (r_load (b := w.heap.size) (i := 0) rfl rfl HR.out Try.underlying45 rfl (by rw [sz45]; rfl)) ?_)
    | (go_at_call 62; refine (is_c w2 dv wv D n hD (HH.out.non HF2.out)).mono ?_; rintro e w3 ⟨rfl, hF3⟩; have HF3 := Lib.hid (HF2.out.trans hF3 (fun _ _ h => h)); have HB3 := Lib.hid (hF3.keep HB.out (fun h => h)); have HZ3 := Lib.hid (hF3.keep HZ.out (fun h => h)); clear hF3)
    | (guard_target =~ wpList _ _ _ (⟨_, Op.load 45 _, _, _, _, _⟩ :: _) _ w3; refine wl rfl (r_load (b := w.heap.size) (i := 0) rfl rfl (rangeAt_of HB3.out 0 (refL dv wv D) (by simp)) Try.underlying45 rfl (by rw [sz45]; rfl)) ?_)
    | (go_at_call 46; refine (Copy_ref w3 dv wv D hD (HH.out.non HF3.out)).mono ?_; rintro e w4 ⟨dv', wv', rfl, hN4, hF4⟩; have HN4 := Lib.hid hN4; have HF4 := Lib.hid (HF3.out.trans hF4 (fun _ _ h => h)); have HQ4 := Lib.hid hF4.size; have HB4 := Lib.hid (hF4.keep HB3.out (fun h => h)); have HZ4 := Lib.hid (hF4.keep HZ3.out (fun h => h)); clear hN4 hF4)
    | (go_at_call 45; refine (counted_spent w4 dv' wv' D HN4.out.at hs).mono ?_; rintro e w5 ⟨rfl, hF5⟩; have HF5 := Lib.hid hF5; have HX := Lib.hid (two45 (hF5.keep HB4.out (fun h => h)) (hF5.keep HZ4.out (fun h => h)) (by have := HS1.out; omega) rfl rfl (L := refL dv' wv' { D with down := true }) rfl); have HONE := Lib.hid (refL_one HN4.out.at { D with down := true }); clear hF5)
    | (guard_target =~ wpList _ _ _ (⟨_, Op.store 45 _ _, _, _, _, _⟩ :: _) _ w5; refine wu rfl (r_store (b := w.heap.size) (i := 0) (cs := refL dv' wv' { D with down := true }) rfl rfl rfl HX.out.1 (by rw [sz45]; rfl) HONE.out) ?_; generalize w5.setCells w.heap.size 0 (refL dv' wv' { D with down := true }) = W5 at *)
    | (guard_target =~ wpList _ _ _ (⟨_, Op.load 45 _, _, _, _, _⟩ :: _) _ W5; refine wl rfl (r_load (b := w.heap.size) (i := 0) rfl rfl HX.out.2.1 Try.underlying45 rfl (by rw [sz45]; rfl)) ?_)
    | (guard_target =~ wpList _ _ _ (⟨_, Op.store 45 _ _, _, _, _, _⟩ :: _) _ W5; refine wu rfl (r_store (b := w1.heap.size) (i := 0) (cs := refL dv' wv' { D with down := true }) rfl rfl rfl HX.out.2.2.1 (by rw [sz45]; rfl) HONE.out) ?_)
    | fail)
  refine bodyPost_ret (results_cell_tmp rfl _ _ w1.heap.size 45 _ (0, 0) _ _ rfl HX.out.2.2.2.1 rfl Try.underlying45 rfl (by rw [sz45]; rfl)) rfl
    ⟨dv', wv', rfl, (show RefAt _ dv' wv' { D with down := true } from (HN4.out.at.non HF5.out).fr HX.out.2.2.2.2.1 HX.out.2.2.2.2.2), (HF4.out.trans HF5.out (fun _ _ h => h)).trans HX.out.2.2.2.2.1 (fun i hi e => by have := HS1.out; rcases e with e | e <;> (exfalso; omega))⟩

set_option maxRecDepth 100000 in
set_option maxHeartbeats 1000000 in
theorem RFlush_spent (w : World) (dv wv : Value) (D : Dsk) (hD : Dok D) (h : RefAt w dv wv D) (hd : D.down = false) (hs : D.spent = true) :
    Calls Try.prog 28 #[.agg (refL dv wv D).toArray] w fun e w' => ∃ dv' wv', e = .returned (.tuple #[.agg (refL dv' wv' { D with down := true }).toArray, .int .i64 28]) ∧ RefAt w' dv' wv' { D with down := true } ∧ Fr Non w w' := by
  obtain ⟨w1, w2, hw1, hw2, hs1, hs2, hb, hz, hF2, -, -⟩ := box2 w (refL dv wv D).toArray
  have c3 : w2.cell? ⟨w.heap.size, 3, none⟩ = some (.bool D.down) := cellOf hb 3 rfl
  rw [hd] at c3
  have HR := Lib.hid (rangeAt_of hb 0 (refL dv wv D) (by simp))
  have HB := Lib.hid hb
  have HZ := Lib.hid hz
  have HF2 := Lib.hid hF2
  have HH := Lib.hid h
  have HS1 := Lib.hid hs1
  clear hs1 hs2 hb hz hF2 h
  go_enter Try.func28, Try.ntmps28
  go_wp2_with (first
    | (guard_target =~ wpList _ _ _ (⟨_, Op.box 45 _, _, _, _, _⟩ :: _) _ _; refine wl rfl (r_boxA rfl rfl) ?_; rw [hw1])
    | (guard_target =~ wpList _ _ _ (⟨_, Op.alloc 45, _, _, _, _⟩ :: _) _ _; refine wl rfl (r_allocA rfl (zero45 _)) ?_; rw [hw2])
    | (guard_target =~ wpList _ _ _ (⟨_, Op.load 45 _, _, _, _, _⟩ :: _) _ w2; refine wl rfl (r_load (b := w.heap.size) (i := 0) rfl rfl HR.out Try.underlying45 rfl (by rw [sz45]; rfl)) ?_)
    | (go_at_call 46; refine (Copy_ref w2 dv wv D hD (HH.out.non HF2.out)).mono ?_; rintro e w4 ⟨dv', wv', rfl, hN4, hF4⟩; have HN4 := Lib.hid hN4; have HF4 := Lib.hid (HF2.out.trans hF4 (fun _ _ h => h)); have HQ4 := Lib.hid hF4.size; have HB4 := Lib.hid (hF4.keep HB.out (fun h => h)); have HZ4 := Lib.hid (hF4.keep HZ.out (fun h => h)); clear hN4 hF4)
    | (go_at_call 45; refine (counted_spent w4 dv' wv' D HN4.out.at hs).mono ?_; rintro e w5 ⟨rfl, hF5⟩; have HF5 := Lib.hid hF5; have HX := Lib.hid (two45 (hF5.keep HB4.out (fun h => h)) (hF5.keep HZ4.out (fun h => h)) (by have := HS1.out; omega) rfl rfl (L := refL dv' wv' { D with down := true }) rfl); have HONE := Lib.hid (refL_one HN4.out.at { D with down := true }); clear hF5)
    | (guard_target =~ wpList _ _ _ (⟨_, Op.store 45 _ _, _, _, _, _⟩ :: _) _ w5; refine wu rfl (r_store (b := w.heap.size) (i := 0) (cs := refL dv' wv' { D with down := true }) rfl rfl rfl HX.out.1 (by rw [sz45]; rfl) HONE.out) ?_; generalize w5.setCells w.heap.size 0 (refL dv' wv' { D with down := true }) = W5 at *)
    | (guard_target =~ wpList _ _ _ (⟨_, Op.load 45 _, _, _, _, _⟩ :: _) _ W5; refine wl rfl (r_load (b := w.heap.size) (i := 0) rfl rfl HX.out.2.1 Try.underlying45 rfl (by rw [sz45]; rfl)) ?_)
    | (guard_target =~ wpList _ _ _ (⟨_, Op.store 45 _ _, _, _, _, _⟩ :: _) _ W5; refine wu rfl (r_store (b := w1.heap.size) (i := 0) (cs := refL dv' wv' { D with down := true }) rfl rfl rfl HX.out.2.2.1 (by rw [sz45]; rfl) HONE.out) ?_)
    | fail)
  refine bodyPost_ret (results_cell_tmp rfl _ _ w1.heap.size 45 _ (0, 0) _ _ rfl HX.out.2.2.2.1 rfl Try.underlying45 rfl (by rw [sz45]; rfl)) rfl
    ⟨dv', wv', rfl, (show RefAt _ dv' wv' { D with down := true } from (HN4.out.at.non HF5.out).fr HX.out.2.2.2.2.1 HX.out.2.2.2.2.2), (HF4.out.trans HF5.out (fun _ _ h => h)).trans HX.out.2.2.2.2.1 (fun i hi e => by have := HS1.out; rcases e with e | e <;> (exfalso; omega))⟩

set_option maxRecDepth 100000 in
set_option maxHeartbeats 1000000 in
theorem RWrite_ok (w : World) (dv wv : Value) (D : Dsk) (n : Int) (sv : Value) (s : Sec) (hD : Dok D) (h : RefAt w dv wv D) (hd : D.down = false) (hh : D.has n = true) (hs : D.spent = false) (hl : D.pend.length ≤ 49999) (hbs : BytesAt w sv s.1) :
    Calls Try.prog 47 #[.agg (refL dv wv D).toArray, .int .i64 n, sv] w fun e w' => ∃ dv' wv', e = .returned (.tuple #[.agg (refL dv' wv' { D.count with pend := D.pend ++ [(n, s)] }).toArray, .int .i64 0]) ∧ RefAt w' dv' wv' { D.count with pend := D.pend ++ [(n, s)] } ∧ Fr Non w w' := by
  obtain ⟨w1, w2, hw1, hw2, hs1, hs2, hb, hz, hF2, -, -⟩ := box2 w (refL dv wv D).toArray
  have c3 : w2.cell? ⟨w.heap.size, 3, none⟩ = some (.bool D.down) := cellOf hb 3 rfl
  rw [hd] at c3
  have HR := Lib.hid (rangeAt_of hb 0 (refL dv wv D) (by simp))
  have HB := Lib.hid hb
  have HZ := Lib.hid hz
  have HF2 := Lib.hid hF2
  have HH := Lib.hid h
  have HS1 := Lib.hid hs1
  clear hs1 hs2 hb hz hF2 h
  have HBS := Lib.hid hbs
  obtain ⟨asv, cap, rfl, hh0 | ⟨g, o, rfl, hr0⟩⟩ := hbs
  · exact absurd hh0 (sec_ne s)
  rw [s.2] at HBS ⊢
  clear hr0
  go_enter Try.func47, Try.ntmps47
  go_wp2_with (first
    | (guard_target =~ wpList _ _ _ (⟨_, Op.box 45 _, _, _, _, _⟩ :: _) _ _; refine wl rfl (r_boxA rfl rfl) ?_; rw [hw1])
    | (guard_target =~ wpList _ _ _ (⟨_, Op.alloc 45, _, _, _, _⟩ :: _) _ _; refine wl rfl (r_allocA rfl (zero45 _)) ?_; rw [hw2])
    | (guard_target =~ wpList _ _ _ (⟨_, Op.load 45 _, _, _, _, _⟩ :: _) _ w2; refine wl rfl (r_load (b := w.heap.size) (i := 0) rfl rfl HR.out Try.underlying45 rfl (by rw [sz45]; rfl)) ?_)
    | (go_at_call 62; refine (is_c w2 dv wv D n hD (HH.out.non HF2.out)).mono ?_; rintro e w3 ⟨rfl, hF3⟩; have HF3 := Lib.hid (HF2.out.trans hF3 (fun _ _ h => h)); have HB3 := Lib.hid (hF3.keep HB.out (fun h => h)); have HZ3 := Lib.hid (hF3.keep HZ.out (fun h => h)); clear hF3)
    | (guard_target =~ wpList _ _ _ (⟨_, Op.load 45 _, _, _, _, _⟩ :: _) _ w3; refine wl rfl (r_load (b := w.heap.size) (i := 0) rfl rfl (rangeAt_of HB3.out 0 (refL dv wv D) (by simp)) Try.underlying45 rfl (by rw [sz45]; rfl)) ?_)
    | (go_at_call 46; refine (Copy_ref w3 dv wv D hD (HH.out.non HF3.out)).mono ?_; rintro e w4 ⟨dv', wv', rfl, hN4, hF4⟩; have HN4 := Lib.hid hN4; have HF4 := Lib.hid (HF3.out.trans hF4 (fun _ _ h => h)); have HQ4 := Lib.hid hF4.size; have HB4 := Lib.hid (hF4.keep HB3.out (fun h => h)); have HZ4 := Lib.hid (hF4.keep HZ3.out (fun h => h)); clear hN4 hF4)
    | (go_at_call 45; refine (counted_yes w4 dv' wv' D hD HN4.out.at hs).mono ?_; rintro e w5 ⟨rfl, hF5⟩; have HF5 := Lib.hid hF5; have HB5 := Lib.hid (hF5.keep HB4.out (fun h => h)); have HZ5 := Lib.hid (hF5.keep HZ4.out (fun h => h)); have HONE := Lib.hid (refL_one HN4.out.at D.count); clear hF5)
    | (guard_target =~ wpList _ _ _ (⟨_, Op.store 45 _ _, _, _, _, _⟩ :: _) _ w5; refine wu rfl (r_store (b := w.heap.size) (i := 0) (cs := refL dv' wv' D.count) rfl rfl rfl (there45 HB5.out rfl) (by rw [sz45]; rfl) HONE.out) ?_; obtain ⟨W5, hW5⟩ : ∃ W, w5.setCells w.heap.size 0 (refL dv' wv' D.count) = W := ⟨_, rfl⟩; rw [hW5]; have HW5 := Lib.hid hW5; clear hW5)
    | fail)
  -- the state in the box: RefNew from w3's size on
  have hF6 : Fr (· = w.heap.size) w5 W5 := by rw [← HW5.out]; exact Fr.setCells (S := (· = w.heap.size)) _ (fun _ => rfl) _ _ _ (Fr.refl _ _)
  have hA6 : Apart w5 (· = w.heap.size) := by
    rintro k rfl cs
    rw [HB5.out]; exact ⟨by simp, by simp, by simp⟩
  have hN6 : RefNew W5 w3.heap.size dv' wv' D := (HN4.out.fr HF5.out (Apart.non _)).fr hF6 hA6
  have hB6 : W5.heap[w.heap.size]? = some (.cells (refL dv' wv' D.count).toArray 45) := by rw [← HW5.out]; exact put45 HB5.out rfl (l := refL dv' wv' D.count) rfl
  have hZ6 := hF6.keep HZ5.out (by have := HS1.out; omega)
  have hG6 : Fr Non w W5 := (HF4.out.trans HF5.out (fun _ _ h => h)).trans hF6 (fun i hi e => by exfalso; omega)
  have hsz6 : w3.heap.size ≤ W5.heap.size := Nat.le_trans (Nat.le_trans HQ4.out HF5.out.size) hF6.size
  obtain ⟨aw, cw, rfl⟩ := HN4.out.at.wv
  obtain ⟨ss, ys, hR6, hn6, hW6, hX6⟩ := hN6
  have hs01 : w.heap.size < w1.heap.size := by have := HS1.out; omega
  have hs13 : w1.heap.size < w3.heap.size := heap_lt HZ3.out
  have hlen : ys.length = D.pend.length := hW6.len
  have hFd : Fr Non W5 W5.drew := (Fr.refl _ _).drew
  have hb6 : BytesAt W5.drew (.slice (some ⟨g, o, none⟩) 256 cap) s.1 := HBS.out.fr hG6.drew (fun _ _ h => h)
  obtain ⟨b7, cap7, w7, hrun7, ho7, hfr7, hle7, hlt7⟩ := run_dup W5.drew (.slice (some ⟨g, o, none⟩) 256 cap) s.1 hb6 (sec_ne _) (by rw [s.2]; decide)
  rw [s.2] at hrun7 ho7
  have hsz7 : W5.heap.size ≤ b7 := hle7
  have hF7 : Fr Non W5 (w7.alloc (.cells (encW (n, (some ⟨b7, 0, none⟩, 256, cap7))).toArray 92)) := (hFd.trans hfr7 (fun _ _ h => h)).alloc _
  have hW7 := hW6.fr hF7 (Apart.non _)
  have hR7 := hR6.fr hF7 (Apart.non _)
  obtain ⟨b9, cap9, w9, hrun9, ho9, hgr9, hlies9, hlt9⟩ := run_append_one elem92 (t := 43) (ty := 43) Try.underlying43 hW7.own (g := w7.heap.size) (x := (n, (some ⟨b7, 0, none⟩, 256, cap7))) (heap_alloc_new w7 _) (by unfold maxLen; omega) (by omega)
  have hgrF : Fr (fun b => (Value.slice aw D.pend.length cw).ownBlock = some b) (w7.alloc (.cells (encW (n, (some ⟨b7, 0, none⟩, 256, cap7))).toArray 92)) w9 := (Fr.refl _ _).grown hgr9 (fun k hk _ => hk)
  have hW9 : WrsAt w9 w3.heap.size (.slice (some ⟨b9, 0, none⟩) (ys.length + 1) cap9) (ys ++ [(n, (some ⟨b7, 0, none⟩, 256, cap7))]) (D.pend ++ [(n, s)]) :=
    hW7.snoc (x := (n, s)) (ho7.fr ((Fr.refl Non w7).alloc _) (fun _ _ h => h)) (by omega) (by have := hF7.size; omega)
      (fun i t ht e => by
        have hi : i < D.pend.length := by have := (List.getElem?_eq_some_iff.1 ht).1; omega
        obtain ⟨_, g', c', e', ho', _⟩ := hW6.el i t _ ht (List.getElem?_eq_getElem hi)
        rw [e'] at e
        have := OwnB.lt ho'
        have e2 : g' = b7 := by injection e with e; injection e
        omega) ho9 hgr9 (fun b hb => by
          have e : b9 = b := Option.some.inj hb
          rcases hlies9 with h | h
          · exact .inl (by rw [← e]; exact h)
          · exact .inr (by omega))
  have hX9 : ∀ (i j : Nat) (s : Raw) (y : Int × Raw), ss[i]? = some s → (ys ++ [(n, (some ⟨b7, 0, none⟩, 256, cap7))])[j]? = some y → s.1 ≠ y.2.1 := by
    intro i j s y hs hy
    rcases getElem?_snoc hy with ⟨_, hy⟩ | ⟨_, rfl⟩
    · exact hX6 i j s y hs hy
    · intro e
      obtain ⟨g', c', e', ho', _⟩ := hR6.el i s hs
      rw [e'] at e
      have := OwnB.lt ho'
      have e2 : g' = b7 := by injection e with e; injection e
      omega
  have hR9 : RowsAt w9 w3.heap.size dv' ss (fun i => D.at i) :=
    ⟨hR7.own.fr hgrF (fun b hb => Own.apart hR7.own hW7.own (by decide) hb), hR7.vb, fun i s hi => by obtain ⟨g, c, e, ho, hb⟩ := hR7.el i s hi; exact ⟨g, c, e, ho.fr hgrF (fun b hb => Own.apart ho hW7.own (by decide) hb), hb⟩, hR7.dj⟩
  have hnb : ∀ k, k < w3.heap.size → ¬ (Value.slice aw D.pend.length cw).ownBlock = some k := fun k hk e => by have := hW7.vb k e; omega
  have hB9 := hgrF.keep (hF7.keep hB6 (fun h => h)) (hnb _ (by omega))
  have hZ9 := hgrF.keep (hF7.keep hZ6 (fun h => h)) (hnb _ hs13)
  have hF9 : Fr Non w w9 := (hG6.trans hF7 (fun _ _ h => h)).trans hgrF (fun i hi e => by exact absurd e (hnb i (by omega)))
  obtain ⟨D', hD'⟩ : ∃ D' : Dsk, D' = { D.count with pend := D.pend ++ [(n, s)] } := ⟨_, rfl⟩
  have hB10 : (w9.setCell ⟨w.heap.size, 1, none⟩ (.slice (some ⟨b9, 0, none⟩) (ys.length + 1) cap9)).heap[w.heap.size]? = some (.cells (refL dv' (.slice (some ⟨b9, 0, none⟩) (ys.length + 1) cap9) D').toArray 45) := by
    rw [heap_setCell_at hB9, hD']; rfl
  have hF10 : Fr (· = w.heap.size) w9 (w9.setCell ⟨w.heap.size, 1, none⟩ (.slice (some ⟨b9, 0, none⟩) (ys.length + 1) cap9)) := (Fr.refl (· = w.heap.size) w9).setCell _ _ (fun _ => rfl)
  have hZ10 := hF10.keep hZ9 (by omega)
  have hA9 : Apart w9 (fun k => k = w.heap.size ∨ k = w1.heap.size) := by
    rintro k (rfl | rfl) cs
    · rw [hB9]; exact ⟨by simp, by simp, by simp⟩
    · rw [hZ9]; exact ⟨by simp, by simp, by simp⟩
  have hF11 : Fr (fun k => k = w.heap.size ∨ k = w1.heap.size) w9 ((w9.setCell ⟨w.heap.size, 1, none⟩ (.slice (some ⟨b9, 0, none⟩) (ys.length + 1) cap9)).setCells w1.heap.size 0 (refL dv' (.slice (some ⟨b9, 0, none⟩) (ys.length + 1) cap9) D')) :=
    Fr.setCells _ (fun _ => .inr rfl) _ _ _ (hF10.mono (fun _ _ h => .inl h))
  have hN9 : RefNew w9 w3.heap.size dv' (.slice (some ⟨b9, 0, none⟩) (ys.length + 1) cap9) D' := by
    subst hD'
    exact ⟨ss, _, hR9, hn6, hW9, hX9⟩
  have hN11 := (hN9.fr hF11 hA9).at
  have hone : ∀ v ∈ refL dv' (.slice (some ⟨b9, 0, none⟩) (ys.length + 1) cap9) D', v.oneCell' = true := refL_one hN9.at D'
  have HFIN := Lib.hid (And.intro hN11 (hF9.trans hF11 (fun i hi e => by rcases e with e | e <;> (exfalso; omega))))
  have HR10 := Lib.hid (rangeAt_of hB10 0 (refL dv' (.slice (some ⟨b9, 0, none⟩) (ys.length + 1) cap9) D') (by simp))
  have HT10 := Lib.hid (there45 hZ10 rfl)
  have HP11 := Lib.hid (put45 hZ10 rfl (l := refL dv' (.slice (some ⟨b9, 0, none⟩) (ys.length + 1) cap9) D') rfl)
  have HO10 := Lib.hid hone
  have c9 : w9.cell? ⟨w.heap.size, 1, none⟩ = some (.slice aw D.pend.length cw) := cellOf hB9 1 rfl
  have f9 : w9.frozen? ⟨w.heap.size, 1, none⟩ = false := frozenOf hB9 1
  have hS0 : ∀ W, Fr Non W5.drew W → W.cell? ⟨w.heap.size, 1, none⟩ = some (.slice aw D.pend.length cw) := fun W hW => hW.cell (show W5.drew.cell? _ = _ from cellOf hB6 1 rfl) (fun h => h)
  have HS := Lib.hid hS0
  have HFR7 := Lib.hid hfr7
  have HRUN7 := Lib.hid hrun7
  have HRUN9 := Lib.hid hrun9
  clear hR6 hn6 hW6 hX6 hFd hb6 hrun7 ho7 hfr7 hle7 hlt7 hsz7 hF7 hW7 hR7 hrun9 ho9 hgr9 hlies9 hlt9 hgrF hW9 hX9 hR9 hnb hB9 hZ9 hF9 hB10 hF10 hZ10 hA9 hF11 hN9 hN11 hone hS0 hB6 hZ6 hG6 hsz6 hF6 hA6 hs01 hs13
  refine rc (fun W => W.cell? ⟨w.heap.size, 1, none⟩ = some (.slice aw D.pend.length cw)) 8 (by kernel_rfl) ?_
  have hS := HS.out W5.drew (Fr.refl _ _)
  refine tc (i := 0) (v := .pointer (some ⟨w.heap.size, 1, none⟩)) rfl 8 (by kernel_rfl) (fun _ _ _ h => h) rfl (fun w hw => by unfold RunV; go_simp) hS ?_
  simp only [Act.put, List.setIfInBounds_toArray, List.set_cons_zero, List.set_cons_succ]
  refine tc (i := 1) (v := .slice aw D.pend.length cw) rfl 8 (by kernel_rfl) (fun _ _ _ h => h) rfl (fun w hw => by unfold RunV; go_simp) hS ?_
  simp only [Act.put, List.setIfInBounds_toArray, List.set_cons_zero, List.set_cons_succ]
  refine tc (i := 2) (v := .int .i64 n) rfl 8 (by kernel_rfl) (fun _ _ _ h => h) rfl (fun w hw => r_move rfl rfl) hS ?_
  simp only [Act.put, List.setIfInBounds_toArray, List.set_cons_zero, List.set_cons_succ]
  refine tc (i := 4) (v := .slice (some ⟨g, o, none⟩) 256 cap) rfl 8 (by kernel_rfl) (fun _ _ _ h => h) rfl (fun w hw => r_move rfl rfl) hS ?_
  simp only [Act.put, List.setIfInBounds_toArray, List.set_cons_zero, List.set_cons_succ]
  clear hS
  refine oc3 (i := 3) rfl (by kernel_rfl) rfl (w' := W5.drew.alloc (.cells #[] 5)) (HS.out _ ((Fr.refl _ _).alloc _)) (r_buildSlice (vs := []) rfl rfl (run_empty30 W5.drew)) ?_
  simp only [Act.put, List.setIfInBounds_toArray, List.set_cons_zero, List.set_cons_succ]
  refine oc3 (i := 5) rfl (by kernel_rfl) rfl (w' := w7) (HS.out _ HFR7.out) (r_builtin (vs := [.slice (some ⟨W5.heap.size, 0, none⟩) 0 0, .slice (some ⟨g, o, none⟩) 256 cap]) rfl rfl (builtin_append HRUN7.out)) ?_
  simp only [Act.put, List.setIfInBounds_toArray, List.set_cons_zero, List.set_cons_succ]
  refine oc3 (i := 6) rfl (by kernel_rfl) rfl (w' := w7) (HS.out _ HFR7.out) (r_build (vs := [(0, .int .i64 n), (1, .slice (some ⟨b7, 0, none⟩) 256 cap7)]) rfl rfl (build92 w7 n (some ⟨b7, 0, none⟩, 256, cap7))) ?_
  simp only [Act.put, List.setIfInBounds_toArray, List.set_cons_zero, List.set_cons_succ]
  refine oc3 (i := 7) rfl (by kernel_rfl) rfl (w' := w7.alloc (.cells (encW (n, (some ⟨b7, 0, none⟩, 256, cap7))).toArray 92)) (HS.out _ (HFR7.out.alloc _)) (r_buildSlice (vs := [(0, .agg (encW (n, (some ⟨b7, 0, none⟩, 256, cap7))).toArray)]) rfl rfl (buildSlice43 w7 (n, (some ⟨b7, 0, none⟩, 256, cap7)))) ?_
  simp only [Act.put, List.setIfInBounds_toArray, List.set_cons_zero, List.set_cons_succ]
  refine oc2 (i := 8) rfl (by kernel_rfl) rfl (by kernel_rfl) (r_builtin (vs := [.slice aw D.pend.length cw, .slice (some ⟨w7.heap.size, 0, none⟩) 1 1]) rfl rfl (builtin_append HRUN9.out)) ?_
  simp only [Act.put, List.setIfInBounds_toArray, List.set_cons_zero, List.set_cons_succ]
  refine oc2 (i := 9) (w' := w9) (v := .pointer (some ⟨w.heap.size, 1, none⟩)) rfl (by kernel_rfl) rfl (by kernel_rfl) (by unfold RunV; go_simp) ?_
  simp only [Act.put, List.setIfInBounds_toArray, List.set_cons_zero, List.set_cons_succ]
  refine oc2u (i := 10) (w' := w9.setCell ⟨w.heap.size, 1, none⟩ (.slice (some ⟨b9, 0, none⟩) (ys.length + 1) cap9)) rfl (by kernel_rfl) rfl (by kernel_rfl) (by unfold RunU; go_simp) ?_
  simp only [Act.put, List.setIfInBounds_toArray, List.set_cons_zero, List.set_cons_succ]
  refine dc (by kernel_rfl) ?_
  clear c9 f9
  go_wp2_with (first
    | (guard_target =~ wpList _ _ _ (⟨_, Op.load 45 _, _, _, _, _⟩ :: _) _ _; refine wl rfl (r_load (b := w.heap.size) (i := 0) rfl rfl HR10.out Try.underlying45 rfl (by rw [sz45]; rfl)) ?_)
    | (guard_target =~ wpList _ _ _ (⟨_, Op.store 45 _ _, _, _, _, _⟩ :: _) _ _; refine wu rfl (r_store (b := w1.heap.size) (i := 0) (cs := refL dv' (.slice (some ⟨b9, 0, none⟩) (ys.length + 1) cap9) D') rfl rfl rfl HT10.out (by rw [sz45]; rfl) HO10.out) ?_; generalize (w9.setCell ⟨w.heap.size, 1, none⟩ (.slice (some ⟨b9, 0, none⟩) (ys.length + 1) cap9)).setCells w1.heap.size 0 (refL dv' (.slice (some ⟨b9, 0, none⟩) (ys.length + 1) cap9) D') = W11 at *)
    | fail)
  subst hD'
  refine bodyPost_ret (results_cell_tmp rfl _ _ w1.heap.size 45 _ (0, 0) _ _ rfl HP11.out rfl Try.underlying45 rfl (by rw [sz45]; rfl)) rfl ⟨dv', _, rfl, HFIN.out.1, HFIN.out.2⟩

end Go.Proofs.Yticgkbpmaakkiaa
