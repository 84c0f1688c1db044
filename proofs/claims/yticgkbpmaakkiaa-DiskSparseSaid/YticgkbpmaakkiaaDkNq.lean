/-
  The reference's Flush, where it flushes.
-/
import Derived.Test.YticgkbpmaakkiaaDkMq
namespace Go.Proofs.Yticgkbpmaakkiaa
open Go.RowKit

theorem Own.set1 {w : World} {e : TypeId} {g n cap : Nat} {α : Type} {enc : α → List Value} {l : List α} (henc : ∀ x, (enc x).length = 1) (h : Own w e 1 enc (.slice (some ⟨g, 0, none⟩) n cap) l) (i : Nat) (x : α) (v : Value) (hv : enc x = [v]) (hi : i < l.length) :
    Own (w.setCell ⟨g, i, none⟩ v) e 1 enc (.slice (some ⟨g, 0, none⟩) n cap) (l.set i x) := by
  have flat1 : ∀ l : List α, ∀ i, i < l.length → (l.set i x).flatMap enc = (l.flatMap enc).set i v := by
    intro l
    induction l with
    | nil => intro i hi; simp at hi
    | cons y r ih =>
      intro i hi
      obtain ⟨u, hu⟩ : ∃ u, enc y = [u] := by
        have := henc y
        match h : enc y, this with
        | [u], _ => exact ⟨u, rfl⟩
      cases i with
      | zero => simp [hu, hv]
      | succ i => simp only [List.set_cons_succ, List.flatMap_cons, hu, List.singleton_append, List.set_cons_succ]; rw [ih i (by simpa using hi)]
  rcases h with ⟨h1, h2⟩
  rcases h2 with ⟨hh, _⟩ | ⟨g', cap', cur, hv', hb, hg, hc, hm, hs, ht⟩
  · cases hh
  · cases hv'
    refine ⟨by rw [flat1 l i hi, List.length_set, List.length_set]; exact h1, .inr ⟨g, cap, cur.setIfInBounds i v, by simp, hb, heap_setCell_at hg i v, by simpa using hc, hm, by simpa using hs, ?_⟩⟩
    rw [flat1 l i hi, ← ht]
    simp only [Array.toList_setIfInBounds, List.length_set, Nat.mul_one]
    rw [List.take_set]

theorem storeAll_at (l : List (Int × Sec)) (j : Int) : ∀ D : Dsk, (D.storeAll l).at j = seen j l (D.at j) := by
  induction l with
  | nil => intro D; rfl
  | cons x r ih =>
    intro D
    show ((D.store x.1 x.2).storeAll r).at j = seen j r (if x.1 = j then x.2 else D.at j)
    rw [ih, store_at]
    congr 1
    by_cases h : j = x.1
    · rw [if_pos h, if_pos h.symm]
    · rw [if_neg h, if_neg (fun e => h e.symm)]

/-- The first i sectors are as they are seen. -/
def Dsk.part (D : Dsk) (i : Nat) : Dsk := { D with dur := fun j => if 0 ≤ j ∧ j < (i : Int) then some (D.see j) else D.dur j }
theorem part_at (D : Dsk) (i : Nat) (j : Int) : (D.part i).at j = if 0 ≤ j ∧ j < (i : Int) then D.see j else D.at j := by
  unfold Dsk.at Dsk.part
  simp only []
  split <;> rfl
theorem part_see (D : Dsk) (i : Nat) : (D.part i).see i = D.see i := by
  unfold Dsk.see
  rw [part_at, if_neg (by omega)]
  rfl

/-- One sector more. -/
theorem RowsAt.set {w : World} {B gd cd : Nat} {ss : List Raw} {f f' : Nat → Sec} (h : RowsAt w B (.slice (some ⟨gd, 0, none⟩) ss.length cd) ss f) {i : Nat} (hi : i < ss.length) {g cap : Nat} (ho : OwnB w (.slice (some ⟨g, 0, none⟩) 256 cap) (f' i).1) (hg : B ≤ g)
    (hne : ∀ (j : Nat) (s : Raw), ss[j]? = some s → s.1 ≠ some ⟨g, 0, none⟩) (hf : ∀ j, j ≠ i → f' j = f j) :
    RowsAt (w.setCell ⟨gd, i, none⟩ (.slice (some ⟨g, 0, none⟩) 256 cap)) B (.slice (some ⟨gd, 0, none⟩) ss.length cd) (ss.set i (some ⟨g, 0, none⟩, 256, cap)) f' := by
  have hF : Fr (· = gd) w (w.setCell ⟨gd, i, none⟩ (.slice (some ⟨g, 0, none⟩) 256 cap)) := (Fr.refl (· = gd) w).setCell _ _ (fun _ => rfl)
  obtain ⟨cs, hcs⟩ := h.own.typed (b := gd) rfl
  have hk : ∀ {g' c : Nat} {l : List UInt8}, OwnB w (.slice (some ⟨g', 0, none⟩) 256 c) l → OwnB (w.setCell ⟨gd, i, none⟩ (.slice (some ⟨g, 0, none⟩) 256 cap)) (.slice (some ⟨g', 0, none⟩) 256 c) l := fun ho => ho.fr hF (fun b hb e => by
    obtain ⟨cs', h'⟩ := ho.typed hb
    rw [show b = gd from e, hcs] at h'
    cases h')
  have hget : ∀ (j : Nat) (s : Raw), (ss.set i (some ⟨g, 0, none⟩, 256, cap))[j]? = some s → (j = i ∧ s = (some ⟨g, 0, none⟩, 256, cap)) ∨ (j ≠ i ∧ ss[j]? = some s) := by
    intro j s hs
    rw [List.getElem?_set] at hs
    by_cases e : i = j
    · subst e
      rw [if_pos rfl, if_pos hi] at hs
      exact .inl ⟨rfl, (Option.some.inj hs).symm⟩
    · rw [if_neg e] at hs
      exact .inr ⟨fun h => e h.symm, hs⟩
  refine ⟨?_, h.vb, fun j s hs => ?_, fun j j' s t hs ht e => ?_⟩
  · exact Own.set1 (fun _ => rfl) h.own i (some ⟨g, 0, none⟩, 256, cap) _ rfl hi
  · rcases hget j s hs with ⟨rfl, rfl⟩ | ⟨hji, hs⟩
    · exact ⟨g, cap, rfl, hk ho, hg⟩
    · obtain ⟨g', c', e, ho', hb⟩ := h.el j s hs
      rw [hf j hji]
      exact ⟨g', c', e, hk ho', hb⟩
  · rcases hget j s hs with ⟨e1, rfl⟩ | ⟨hji, hs2⟩ <;> rcases hget j' t ht with ⟨e2, rfl⟩ | ⟨hji', ht2⟩
    · exact e1.trans e2.symm
    · exact absurd e.symm (hne j' t ht2)
    · exact absurd e (hne j s hs2)
    · exact h.dj j j' s t hs2 ht2 e

set_option maxRecDepth 100000 in
set_option maxHeartbeats 1000000 in
theorem RFlush_ok (w : World) (dv wv : Value) (D : Dsk) (hD : Dok D) (h : RefAt w dv wv D) (hd : D.down = false) (hs : D.spent = false) :
    Calls Try.prog 28 #[.agg (refL dv wv D).toArray] w fun e w' => ∃ dv' wv', e = .returned (.tuple #[.agg (refL dv' wv' { D.count.storeAll D.pend with pend := [] }).toArray, .int .i64 0]) ∧ RefAt w' dv' wv' { D.count.storeAll D.pend with pend := [] } ∧ Fr Non w w' := by
  obtain ⟨w1, w2, hw1, hw2, hs1, hs2, hb, hz, hF2, -, -⟩ := box2 w (refL dv wv D).toArray
  have c3 : w2.cell? ⟨w.heap.size, 3, none⟩ = some (.bool D.down) := cellOf hb 3 rfl
  rw [hd] at c3
  have HR := Lib.hid (rangeAt_of hb 0 (refL dv wv D) (by simp))
  have HB := Lib.hid hb
  have HZ := Lib.hid hz
  have HF2 := Lib.hid hF2
  have HH := Lib.hid h
  have HS1 := Lib.hid hs1
  clear hs1 hs2 hb hz hF2 h
  go_enter Try.func28, Try.ntmps28
  go_wp2_with (first
    | (guard_target =~ wpList _ _ _ (⟨_, Op.box 45 _, _, _, _, _⟩ :: _) _ _; refine wl rfl (r_boxA rfl rfl) ?_; rw [hw1])
    | (guard_target =~ wpList _ _ _ (⟨_, Op.alloc 45, _, _, _, _⟩ :: _) _ _; refine wl rfl (r_allocA rfl (zero45 _)) ?_; rw [hw2])
    | (guard_target =~ wpList _ _ _ (⟨_, Op.load 45 _, _, _, _, _⟩ :: _) _ w2; refine wl rfl (r_load (b := w.heap.size) (i := 0) rfl rfl HR.out Try.underlying45 rfl (by rw [sz45]; rfl)) ?_)
    | (go_at_call 46; refine (Copy_ref w2 dv wv D hD (HH.out.non HF2.out)).mono ?_; rintro e w4 ⟨dv', wv', rfl, hN4, hF4⟩; have HN4 := Lib.hid hN4; have HF4 := Lib.hid (HF2.out.trans hF4 (fun _ _ h => h)); have HQ4 := Lib.hid hF4.size; have HB4 := Lib.hid (hF4.keep HB.out (fun h => h)); have HZ4 := Lib.hid (hF4.keep HZ.out (fun h => h)); clear hN4 hF4)
    | (go_at_call 45; refine (counted_yes w4 dv' wv' D hD HN4.out.at hs).mono ?_; rintro e w5 ⟨rfl, hF5⟩; have HF5 := Lib.hid hF5; have HB5 := Lib.hid (hF5.keep HB4.out (fun h => h)); have HZ5 := Lib.hid (hF5.keep HZ4.out (fun h => h)); have HONE := Lib.hid (refL_one HN4.out.at D.count); clear hF5)
    | (guard_target =~ wpList _ _ _ (⟨_, Op.store 45 _ _, _, _, _, _⟩ :: _) _ w5; refine wu rfl (r_store (b := w.heap.size) (i := 0) (cs := refL dv' wv' D.count) rfl rfl rfl (there45 HB5.out rfl) (by rw [sz45]; rfl) HONE.out) ?_; obtain ⟨W5, hW5⟩ : ∃ W, w5.setCells w.heap.size 0 (refL dv' wv' D.count) = W := ⟨_, rfl⟩; rw [hW5]; have HW5 := Lib.hid hW5; clear hW5)
    | fail)
  have hs01 : w.heap.size < w1.heap.size := by have := HS1.out; omega
  have hs12 : w1.heap.size < w2.heap.size := heap_lt HZ.out
  have hF6 : Fr (· = w.heap.size) w5 W5 := by rw [← HW5.out]; exact Fr.setCells (S := (· = w.heap.size)) _ (fun _ => rfl) _ _ _ (Fr.refl _ _)
  have hA6 : Apart w5 (· = w.heap.size) := by
    rintro k rfl cs
    rw [HB5.out]; exact ⟨by simp, by simp, by simp⟩
  have hN6 : RefNew W5 w2.heap.size dv' wv' (D.count.part 0) := by
    obtain ⟨ss, ys, h1, h2, h3, h4⟩ := (HN4.out.fr HF5.out (Apart.non _)).fr hF6 hA6
    refine ⟨ss, ys, ?_, h2, h3, h4⟩
    have : (fun i : Nat => (D.count.part 0).at i) = (fun i : Nat => D.at i) := by
      funext i; rw [part_at, if_neg (by omega)]; rfl
    rw [this]; exact h1
  have hB6 : W5.heap[w.heap.size]? = some (.cells (refL dv' wv' D.count).toArray 45) := by rw [← HW5.out]; exact put45 HB5.out rfl (l := refL dv' wv' D.count) rfl
  have hZ6 := hF6.keep HZ5.out (by omega)
  have hG6 : Fr Non w W5 := (HF4.out.trans HF5.out (fun _ _ h => h)).trans hF6 (fun i hi e => by exfalso; omega)
  obtain ⟨gd, cd, nn, hdv, hn0⟩ : ∃ gd cd nn, dv' = .slice (some ⟨gd, 0, none⟩) nn cd ∧ (nn : Int) = D.n := by
    obtain ⟨ss, ys, hr⟩ := HN4.out.at
    obtain ⟨gd, cd, e, -⟩ := hr.dvAt hD.n0
    exact ⟨gd, cd, _, e, hr.nd⟩
  subst hdv
  obtain ⟨aw, cw, rfl⟩ := HN4.out.at.wv
  have hn1 : nn ≤ 4096 := by have := hD.n1; omega
  have HQ6 : Hid (w2.heap.size ≤ W5.heap.size) := Nat.le_trans (Nat.le_trans HQ4.out HF5.out.size) hF6.size
  have HN6 := Lib.hid hN6
  have HB6 := Lib.hid hB6
  have HZ6 := Lib.hid hZ6
  have HG6 := Lib.hid hG6
  have HN0 := Lib.hid hn0
  have HS01 := Lib.hid hs01
  have HS12 := Lib.hid hs12
  clear hN6 hB6 hZ6 hG6 hF6 hA6 hn0 hs01 hs12
  go_loopw [5] (fun u wr => ∃ k : Nat, k ≤ nn ∧ u = .int .i64 k ∧ RefNew wr w2.heap.size (.slice (some ⟨gd, 0, none⟩) nn cd) (.slice aw D.pend.length cw) (D.count.part k) ∧ wr.heap[w.heap.size]? = some (.cells (refL (.slice (some ⟨gd, 0, none⟩) nn cd) (.slice aw D.pend.length cw) D.count).toArray 45) ∧
    wr.heap[w1.heap.size]? = some (.cells zref 45) ∧ Fr Non w wr ∧ w2.heap.size ≤ wr.heap.size) (fun u _ => nn - (intOf u).toNat)
  case atStart => exact ⟨0, Nat.zero_le _, rfl, HN6.out, HB6.out, HZ6.out, HG6.out, HQ6.out⟩
  case round =>
    obtain ⟨k, hk, rfl, hN, hB, hZ, hG, hQ⟩ := hrel
    have HQ := Lib.hid hQ
    have c0 : wr.cell? ⟨w.heap.size, 0, none⟩ = some (.slice (some ⟨gd, 0, none⟩) nn cd) := cellOf hB 0 rfl
    have HN := Lib.hid hN
    have HB := Lib.hid hB
    have HZ := Lib.hid hZ
    have HG := Lib.hid hG
    clear hN hB hZ hG hQ
    by_cases hlt : k < nn
    · go_wp2
      have hki : (k : Int) < (D.count.part k).n := by show (k : Int) < D.n; have := HN0.out; omega
      obtain ⟨ss, ys, h1, h2, h3, h4⟩ := HN.out
      have hssl : ss.length = nn := by have h2' : (ss.length : Int) = D.n := h2; have := HN0.out; omega
      have hDp : Dok (D.count.part k) := ⟨hD.n0, hD.n1, hD.len, hD.sec, fun hl => by
        have hl' : D.limited = true := hl
        have := hD.lim hl'
        have hsp := hs
        unfold Dsk.spent at hsp
        rw [hl'] at hsp
        simp at hsp
        show 0 ≤ wrap64 (D.limit - 1) ∧ wrap64 (D.limit - 1) ≤ _
        unfold wrap64
        omega⟩
      have hS0 : ∀ W, Fr Non wr.drew W → W.cell? ⟨w.heap.size, 0, none⟩ = some (.slice (some ⟨gd, 0, none⟩) nn cd) ∧ W.rangeAt w.heap.size 0 (refL (.slice (some ⟨gd, 0, none⟩) nn cd) (.slice aw D.pend.length cw) D.count) := fun W hW =>
        ⟨hW.cell (show wr.drew.cell? _ = _ from c0) (fun h => h), rangeAt_of (hW.keep (show wr.drew.heap[w.heap.size]? = _ from HB.out) (fun h => h)) 0 _ (by simp)⟩
      have HS := Lib.hid hS0
      have HDP := Lib.hid hDp
      have HKI := Lib.hid hki
      have H1 := Lib.hid (And.intro h1 (And.intro h2 (And.intro h3 h4)))
      have HSSL := Lib.hid hssl
      clear h1 h2 h3 h4 hDp hki hS0 hssl
      refine rc (fun W => W.cell? ⟨w.heap.size, 0, none⟩ = some (.slice (some ⟨gd, 0, none⟩) nn cd) ∧ W.rangeAt w.heap.size 0 (refL (.slice (some ⟨gd, 0, none⟩) nn cd) (.slice aw D.pend.length cw) D.count)) 6 (by kernel_rfl) ?_
      have hS := HS.out wr.drew (Fr.refl _ _)
      refine tc (i := 0) (v := .pointer (some ⟨w.heap.size, 0, none⟩)) rfl 8 (by kernel_rfl) (fun _ _ _ h => h) rfl (fun W0 hw => by unfold RunV; go_simp) hS ?_
      simp only [Act.put, List.setIfInBounds_toArray, List.set_cons_zero, List.set_cons_succ]
      refine tc (i := 1) (v := .slice (some ⟨gd, 0, none⟩) nn cd) rfl 8 (by kernel_rfl) (fun _ _ _ h => h) rfl (fun W0 hw => by obtain ⟨hw0, hw1⟩ := hw; clear hw1; unfold RunV; go_simp) hS ?_
      simp only [Act.put, List.setIfInBounds_toArray, List.set_cons_zero, List.set_cons_succ]
      refine tc (i := 2) (v := .int .i64 k) rfl 8 (by kernel_rfl) (fun _ _ _ h => h) rfl (fun W0 hw => r_move rfl rfl) hS ?_
      simp only [Act.put, List.setIfInBounds_toArray, List.set_cons_zero, List.set_cons_succ]
      refine tc (i := 3) (v := .agg (refL (.slice (some ⟨gd, 0, none⟩) nn cd) (.slice aw D.pend.length cw) D.count).toArray) rfl 8 (by kernel_rfl) (fun _ _ _ h => h) rfl (fun W0 hw => r_load (b := w.heap.size) (i := 0) rfl rfl hw.2 Try.underlying45 rfl (by rw [sz45]; rfl)) hS ?_
      simp only [Act.put, List.setIfInBounds_toArray, List.set_cons_zero, List.set_cons_succ]
      refine tc (i := 4) (v := .int .i64 k) rfl 8 (by kernel_rfl) (fun _ _ _ h => h) rfl (fun W0 hw => r_move rfl rfl) hS ?_
      simp only [Act.put, List.setIfInBounds_toArray, List.set_cons_zero, List.set_cons_succ]
      clear hS
      refine oc1 (i := 5) rfl (by kernel_rfl) rfl ?_
      unfold Oper.wp
      go_simp
      refine (Visible_ref wr.drew (.slice (some ⟨gd, 0, none⟩) nn cd) (.slice aw D.pend.length cw) (D.count.part k) k HDP.out HKI.out ((HN.out.fr ((Fr.refl Non wr).drew) (Apart.non _)).at)).mono ?_
      rintro e w7 ⟨g7, cap7, rfl, ho7, hF7, hg7⟩
      refine ⟨HS.out w7 hF7, ?_⟩
      have hN7 := (HN.out.fr ((Fr.refl Non wr).drew.trans hF7 (fun _ _ h => h)) (Apart.non _))
      obtain ⟨ss, ys, h1, h2, h3, h4⟩ := HN.out
      have hssl : ss.length = nn := by have h2' : (ss.length : Int) = D.n := h2; have := HN0.out; omega
      subst hssl
      have hF70 : Fr Non wr w7 := (Fr.refl Non wr).drew.trans hF7 (fun _ _ h => h)
      have k1 := h1.fr hF70 (Apart.non _)
      have k3 := h3.fr hF70 (Apart.non _)
      rw [part_see] at ho7
      have hg7' : wr.heap.size ≤ g7 := hg7
      have hwB := HQ.out
      have hgd : w2.heap.size ≤ gd := h1.vb gd rfl
      have hset := k1.set (i := k) (f' := fun i : Nat => (D.count.part (k + 1)).at i) (by omega) (g := g7) (cap := cap7) (by
          show OwnB _ _ ((D.count.part (k + 1)).at k).1
          rw [part_at, if_pos (by omega)]; exact ho7) (by omega)
        (fun j s hs e => by
          obtain ⟨g', c', e', ho', _⟩ := h1.el j s hs
          rw [e'] at e
          have := OwnB.lt ho'
          have e2 : g' = g7 := by injection e with e; injection e
          omega)
        (fun j hj => by
          show (D.count.part (k + 1)).at j = (D.count.part k).at j
          rw [part_at, part_at]
          by_cases h : (j : Int) < k
          · rw [if_pos (by omega), if_pos (by omega)]
          · rw [if_neg (by omega), if_neg (by omega)])
      have hF8 : Fr (· = gd) w7 (w7.setCell ⟨gd, k, none⟩ (.slice (some ⟨g7, 0, none⟩) 256 cap7)) := (Fr.refl (· = gd) w7).setCell _ _ (fun _ => rfl)
      have hB7 := hF70.keep HB.out (fun h => h)
      have hZ7 := hF70.keep HZ.out (fun h => h)
      have hs0 := HS01.out
      have hs1 := HS12.out
      have hN8 : RefNew (w7.setCell ⟨gd, k, none⟩ (.slice (some ⟨g7, 0, none⟩) 256 cap7)) w2.heap.size (.slice (some ⟨gd, 0, none⟩) ss.length cd) (.slice aw D.pend.length cw) (D.count.part (k + 1)) := by
        refine ⟨_, ys, hset, by rw [List.length_set]; exact h2, ?_, ?_⟩
        · have hty := k1.own.typed (b := gd) rfl
          obtain ⟨cs, hcs⟩ := hty
          have hk : ∀ {α : Type} {e : TypeId} {n : Nat} {enc : α → List Value} {v : Value} {l : List α}, e ≠ 30 → Own w7 e n enc v l → Own (w7.setCell ⟨gd, k, none⟩ (.slice (some ⟨g7, 0, none⟩) 256 cap7)) e n enc v l := fun hne ho => ho.fr hF8 (fun b hb e => by
            obtain ⟨cs', h'⟩ := ho.typed hb
            rw [show b = gd from e, hcs] at h'
            cases h'
            exact hne rfl)
          exact ⟨hk (by decide) k3.own, k3.len, k3.vb, fun i y x hy hx => by obtain ⟨e1, g, cap, e, ho, hb⟩ := k3.el i y x hy hx; exact ⟨e1, g, cap, e, hk (by decide) ho, hb⟩, k3.dj⟩
        · intro i j s y hs hy
          rw [List.getElem?_set] at hs
          by_cases e : k = i
          · subst e
            rw [if_pos rfl, if_pos (by omega)] at hs
            obtain rfl := Option.some.inj hs
            intro e
            have hj : j < D.pend.length := by have := (List.getElem?_eq_some_iff.1 hy).1; have h3l : ys.length = D.pend.length := h3.len; omega
            obtain ⟨_, g', c', e', ho', _⟩ := h3.el j y _ hy (List.getElem?_eq_getElem hj)
            rw [e'] at e
            have := OwnB.lt ho'
            have e2 : g7 = g' := by injection e with e; injection e
            omega
          · rw [if_neg e] at hs
            exact h4 i j s y hs hy
      have hB8 := hF8.keep hB7 (by omega)
      have hZ8 := hF8.keep hZ7 (by omega)
      have hG8 : Fr Non w (w7.setCell ⟨gd, k, none⟩ (.slice (some ⟨g7, 0, none⟩) 256 cap7)) := (HG.out.trans hF70 (fun _ _ h => h)).trans hF8 (fun i hi e => by exfalso; omega)
      have hgdc : ∃ v, w7.cell? ⟨gd, k, none⟩ = some v := by
        obtain ⟨s, hs⟩ : ∃ s, ss[k]? = some s := ⟨_, List.getElem?_eq_getElem hlt⟩
        have := Own.elem elem30 k1.own hs 0 _ rfl
        exact ⟨_, by simpa using this⟩
      have hfz : w7.frozen? ⟨gd, k, none⟩ = false := by
        rcases k1.own.2 with ⟨hh, _⟩ | ⟨g', cap', cur, hv', hb, hg, _⟩
        · cases hh
        · cases hv'; exact frozenOf hg k
      obtain ⟨v8, hv8⟩ := hgdc
      have HQ8 : Hid (w2.heap.size ≤ (w7.setCell ⟨gd, k, none⟩ (.slice (some ⟨g7, 0, none⟩) 256 cap7)).heap.size) := Nat.le_trans (Nat.le_trans hwB hF70.size) hF8.size
      have HN8 := Lib.hid hN8
      have HB8 := Lib.hid hB8
      have HZ8 := Lib.hid hZ8
      have HG8 := Lib.hid hG8
      have hkl : k < ss.length := hlt
      clear hN7 h1 h2 h3 h4 k1 k3 ho7 hg7 hg7' hwB hgd hset hF8 hB7 hZ7 hs0 hs1 hN8 hB8 hZ8 hG8 hF70 hF7
      refine oc2 (i := 6) (w' := w7) (v := .pointer (some ⟨gd, k, none⟩)) rfl (by kernel_rfl) rfl (by kernel_rfl) (by unfold RunV; go_simp) ?_
      simp only [Act.put, List.setIfInBounds_toArray, List.set_cons_zero, List.set_cons_succ]
      refine oc2u (i := 7) (w' := w7.setCell ⟨gd, k, none⟩ (.slice (some ⟨g7, 0, none⟩) 256 cap7)) rfl (by kernel_rfl) rfl (by kernel_rfl) (by unfold RunU; go_simp) ?_
      refine dc (by kernel_rfl) ?_
      clear hv8 hfz
      generalize w7.setCell ⟨gd, k, none⟩ (.slice (some ⟨g7, 0, none⟩) 256 cap7) = W8 at *
      go_wp2
      go_roundw
      case rel => exact ⟨k + 1, by omega, by go_num, HN8.out, HB8.out, HZ8.out, HG8.out, HQ8.out⟩
      case measure => simp [intOf] <;> omega
    · obtain rfl : k = nn := by omega
      obtain ⟨D', hD'⟩ : ∃ D' : Dsk, D' = { D.count.storeAll D.pend with pend := [] } := ⟨_, rfl⟩
      have hL : ∀ a b, refL a b D' = refL a b D.count := by
        intro a b
        obtain ⟨k1, k2, k3, k4, k5, k6⟩ := storeAll_keeps D.pend D.count
        subst hD'
        simp only [refL, Dsk.lim, k3, k4, k5, k6]
      have hB1 : (wr.setCell ⟨w.heap.size, 1, none⟩ (.slice none 0 0)).heap[w.heap.size]? = some (.cells (refL (.slice (some ⟨gd, 0, none⟩) k cd) (.slice none 0 0) D.count).toArray 45) := by
        rw [heap_setCell_at HB.out]; rfl
      have hF1 : Fr (· = w.heap.size) wr (wr.setCell ⟨w.heap.size, 1, none⟩ (.slice none 0 0)) := (Fr.refl (· = w.heap.size) wr).setCell _ _ (fun _ => rfl)
      have hs0 := HS01.out
      have hZ1 := hF1.keep HZ.out (by omega)
      have hAp : Apart wr (fun k => k = w.heap.size ∨ k = w1.heap.size) := by
        rintro j (rfl | rfl) cs
        · rw [HB.out]; exact ⟨by simp, by simp, by simp⟩
        · rw [HZ.out]; exact ⟨by simp, by simp, by simp⟩
      have hFb : Fr (fun k => k = w.heap.size ∨ k = w1.heap.size) wr ((wr.setCell ⟨w.heap.size, 1, none⟩ (.slice none 0 0)).setCells w1.heap.size 0 (refL (.slice (some ⟨gd, 0, none⟩) k cd) (.slice none 0 0) D.count)) := Fr.setCells _ (fun _ => .inr rfl) _ _ _ (hF1.mono (fun _ _ h => .inl h))
      have hfin : RefAt ((wr.setCell ⟨w.heap.size, 1, none⟩ (.slice none 0 0)).setCells w1.heap.size 0 (refL (.slice (some ⟨gd, 0, none⟩) k cd) (.slice none 0 0) D.count)) (.slice (some ⟨gd, 0, none⟩) k cd) (.slice none 0 0) D' := by
        obtain ⟨ss, ys, h1, h2, h3, h4⟩ := HN.out.fr hFb hAp
        have h2' : (ss.length : Int) = D.n := h2
        have hn : D'.n = D.n := by rw [hD']; exact (storeAll_keeps D.pend D.count).2.1
        have hp : D'.pend = [] := by rw [hD']
        refine (RefNew.at (B := w2.heap.size) ⟨ss, [], ⟨h1.own, h1.vb, fun i s hi => ?_, h1.dj⟩, by rw [hn]; exact h2', ?_, fun i j s y _ hy => (by cases hy)⟩)
        · obtain ⟨g, c, e, ho, hb⟩ := h1.el i s hi
          refine ⟨g, c, e, ?_, hb⟩
          have hil : i < ss.length := (List.getElem?_eq_some_iff.1 hi).1
          have hnk := HN0.out
          have e1 : D'.at i = (D.count.part k).at i := by
            rw [part_at, if_pos (by omega)]
            show (D'.dur i).getD zeroSec = _
            rw [hD']
            exact storeAll_at D.pend i D.count
          show OwnB _ _ (D'.at i).1
          rw [e1]; exact ho
        · rw [hp]; exact WrsAt.nil _ _
      have hone : ∀ v ∈ refL (.slice (some ⟨gd, 0, none⟩) k cd) (.slice none 0 0) D.count, v.oneCell' = true := by
        have := refL_one hfin D.count; exact this
      have hFn : Fr Non w ((wr.setCell ⟨w.heap.size, 1, none⟩ (.slice none 0 0)).setCells w1.heap.size 0 (refL (.slice (some ⟨gd, 0, none⟩) k cd) (.slice none 0 0) D.count)) := HG.out.trans hFb (fun i hi e => by rcases e with e | e <;> (exfalso; omega))
      have c1 : wr.cell? ⟨w.heap.size, 1, none⟩ = some (.slice aw D.pend.length cw) := cellOf HB.out 1 rfl
      have f1 : wr.frozen? ⟨w.heap.size, 1, none⟩ = false := frozenOf HB.out 1
      have HR1 := Lib.hid (rangeAt_of hB1 0 (refL (.slice (some ⟨gd, 0, none⟩) k cd) (.slice none 0 0) D.count) (by simp))
      have HT1 := Lib.hid (there45 hZ1 rfl)
      have HP1 := Lib.hid (put45 hZ1 rfl (l := refL (.slice (some ⟨gd, 0, none⟩) k cd) (.slice none 0 0) D.count) rfl)
      have HFIN := Lib.hid (And.intro hfin hFn)
      have HONE := Lib.hid hone
      have HL := Lib.hid hL
      clear hB1 hF1 hs0 hZ1 hAp hFb hfin hone hFn hlt hk hL
      go_wp2_with (first
        | (guard_target =~ wpList _ _ _ (⟨_, Op.load 45 _, _, _, _, _⟩ :: _) _ _; refine wl rfl (r_load (b := w.heap.size) (i := 0) rfl rfl HR1.out Try.underlying45 rfl (by rw [sz45]; rfl)) ?_)
        | (guard_target =~ wpList _ _ _ (⟨_, Op.store 45 _ _, _, _, _, _⟩ :: _) _ _; refine wu rfl (r_store (b := w1.heap.size) (i := 0) (cs := refL (.slice (some ⟨gd, 0, none⟩) k cd) (.slice none 0 0) D.count) rfl rfl rfl HT1.out (by rw [sz45]; rfl) HONE.out) ?_; generalize (wr.setCell ⟨w.heap.size, 1, none⟩ (.slice none 0 0)).setCells w1.heap.size 0 (refL (.slice (some ⟨gd, 0, none⟩) k cd) (.slice none 0 0) D.count) = W9 at *)
        | fail)
      rw [← hD']
      refine bodyPost_ret (results_cell_tmp rfl _ _ w1.heap.size 45 _ (0, 0) _ _ rfl HP1.out rfl Try.underlying45 rfl (by rw [sz45]; rfl)) rfl ⟨_, _, by rw [HL.out]; rfl, HFIN.out.1, HFIN.out.2⟩
end Go.Proofs.Yticgkbpmaakkiaa
