/-
  Same of two of the reference's devices.
-/
import Derived.Test.YticgkbpmaakkiaaDm1q
namespace Go.Proofs.Yticgkbpmaakkiaa
open Go.RowKit

/-- What the reference calls the same state. -/
def SameR (D D' : Dsk) : Prop := D.n = D'.n ∧ D.down = D'.down ∧ D.lim = D'.lim ∧ (∀ k : Nat, (k : Int) < D.n → D.at k = D'.at k) ∧ D.pend = D'.pend

theorem RefIs.wvAt' {w : World} {dv wv : Value} {ss : List Raw} {ys : List (Int × Raw)} {n : Int} {at' : Int → Sec} {pend : List (Int × Sec)} (h : RefIs w dv wv ss ys n at' pend) :
    ∃ a cw, wv = .slice a ys.length cw ∧ (ys ≠ [] → ∃ gw, a = some ⟨gw, 0, none⟩ ∧ ∀ (i : Nat) (y : Int × Raw), ys[i]? = some y → w.cell? ⟨gw, i * 2, none⟩ = some (.int .i64 y.1) ∧ w.cell? ⟨gw, i * 2 + 1, none⟩ = some (rawV y.2)) := by
  obtain ⟨a, cap, rfl, _, hnil, hag⟩ := Own.shape h.hw
  refine ⟨a, cap, rfl, fun hne => ?_⟩
  cases a with
  | none => exact absurd (hnil rfl) hne
  | some ad =>
    obtain ⟨g, rfl⟩ := hag ad rfl
    refine ⟨g, rfl, fun i y hi => ?_⟩
    have e0 := Own.elem elem92 h.hw hi 0 _ rfl
    have e1 := Own.elem elem92 h.hw hi 1 _ rfl
    exact ⟨by simpa using e0, e1⟩

theorem RefIs.non {w w' : World} {dv wv : Value} {ss : List Raw} {ys : List (Int × Raw)} {n : Int} {at' : Int → Sec} {pend : List (Int × Sec)} (h : RefIs w dv wv ss ys n at' pend) (hf : Fr Non w w') : RefIs w' dv wv ss ys n at' pend :=
  ⟨h.hd.fr hf (fun _ _ h => h), h.hw.fr hf (fun _ _ h => h), h.nd, h.nw, fun i s hs => by obtain ⟨g, c, e, ho⟩ := h.bd i s hs; exact ⟨g, c, e, ho.fr hf (fun _ _ h => h)⟩,
    fun i y x hy hx => by obtain ⟨e0, g, c, e, ho⟩ := h.bw i y x hy hx; exact ⟨e0, g, c, e, ho.fr hf (fun _ _ h => h)⟩, h.dd, h.dw, h.dx⟩

theorem lim_lit (D : Dsk) : ∃ z : Int, D.lim = z := ⟨_, rfl⟩

set_option maxRecDepth 100000 in
set_option maxHeartbeats 2000000 in
theorem Same_no (w : World) (dv wv : Value) (D : Dsk) (dv' wv' : Value) (D' : Dsk) (hD : Dok D) (hD' : Dok D') (h : RefAt w dv wv D) (h' : RefAt w dv' wv' D') (hne : D.n ≠ D'.n ∨ D.pend.length ≠ D'.pend.length ∨ D.down ≠ D'.down ∨ D.lim ≠ D'.lim) :
    Calls Try.prog 32 #[.agg (refL dv wv D).toArray, .agg (refL dv' wv' D').toArray] w fun e w' => e = .returned (.bool false) ∧ Fr Non w w' := by
  obtain ⟨ss, ys, h⟩ := h
  obtain ⟨ss', ys', h'⟩ := h'
  obtain ⟨gd, cd, rfl, -⟩ := h.dvAt hD.n0
  obtain ⟨gd', cd', rfl, -⟩ := h'.dvAt hD'.n0
  obtain ⟨aw, cw, rfl, -⟩ := h.wvAt
  obtain ⟨aw', cw', rfl, -⟩ := h'.wvAt
  obtain ⟨z, hz⟩ := lim_lit D
  obtain ⟨z', hz'⟩ := lim_lit D'
  obtain ⟨d, hd⟩ : ∃ d, D.down = d := ⟨_, rfl⟩
  obtain ⟨d', hd'⟩ : ∃ d, D'.down = d := ⟨_, rfl⟩
  have q1 := h.nd
  have q2 := h'.nd
  have q3 := h.nw
  have q4 := h'.nw
  unfold refL
  rw [hz, hz', hd, hd'] at hne ⊢
  have hE : ((ss.length : Int) == (ss'.length : Int)) = false ∨ (((ss.length : Int) == (ss'.length : Int)) = true ∧ ((ys.length : Int) == (ys'.length : Int)) = false) ∨ (((ss.length : Int) == (ss'.length : Int)) = true ∧ ((ys.length : Int) == (ys'.length : Int)) = true ∧ (d == d') = false) ∨ (((ss.length : Int) == (ss'.length : Int)) = true ∧ ((ys.length : Int) == (ys'.length : Int)) = true ∧ (d == d') = true ∧ (z == z') = false) := by
    by_cases e1 : ss.length = ss'.length
    · have e1' : ((ss.length : Int) == (ss'.length : Int)) = true := by simp [e1]
      by_cases e2 : ys.length = ys'.length
      · have e2' : ((ys.length : Int) == (ys'.length : Int)) = true := by simp [e2]
        cases e3 : (d == d') with
        | false => exact .inr (.inr (.inl ⟨e1', e2', rfl⟩))
        | true =>
          refine .inr (.inr (.inr ⟨e1', e2', rfl, ?_⟩))
          have e3 : d = d' := by simpa using e3
          have : z ≠ z' := by
            rcases hne with h | h | h | h
            · omega
            · omega
            · exact absurd e3 h
            · exact h
          simpa using this
      · exact .inr (.inl ⟨e1', by simp; omega⟩)
    · exact .inl (by simp; omega)
  have hb1 := ((Fr.refl Non _).alloc (.cells (refL (.slice (some ⟨gd', 0, none⟩) ss'.length cd') (.slice aw' ys'.length cw') D').toArray 45)).keep (heap_alloc_new w (.cells (refL (.slice (some ⟨gd, 0, none⟩) ss.length cd) (.slice aw ys.length cw) D).toArray 45)) (fun h => h)
  have hb2 := heap_alloc_new (w.alloc (.cells (refL (.slice (some ⟨gd, 0, none⟩) ss.length cd) (.slice aw ys.length cw) D).toArray 45)) (.cells (refL (.slice (some ⟨gd', 0, none⟩) ss'.length cd') (.slice aw' ys'.length cw') D').toArray 45)
  rw [World.size_alloc] at hb2
  unfold refL at hb1 hb2
  rw [hz, hz', hd, hd'] at hb1 hb2
  have HF : Hid (Fr Non w ((w.alloc (.cells [.slice (some ⟨gd, 0, none⟩) ss.length cd, .slice aw ys.length cw, .int .i64 z, .bool d, .int .i64 D.ops].toArray 45)).alloc (.cells [.slice (some ⟨gd', 0, none⟩) ss'.length cd', .slice aw' ys'.length cw', .int .i64 z', .bool d', .int .i64 D'.ops].toArray 45))) := ((Fr.refl _ w).alloc _).alloc _
  obtain ⟨w2, hw2⟩ : ∃ w2, (w.alloc (.cells [.slice (some ⟨gd, 0, none⟩) ss.length cd, .slice aw ys.length cw, .int .i64 z, .bool d, .int .i64 D.ops].toArray 45)).alloc (.cells [.slice (some ⟨gd', 0, none⟩) ss'.length cd', .slice aw' ys'.length cw', .int .i64 z', .bool d', .int .i64 D'.ops].toArray 45) = w2 := ⟨_, rfl⟩
  rw [hw2] at hb1 hb2 HF
  have a0 : w2.cell? ⟨w.heap.size, 0, none⟩ = some (.slice (some ⟨gd, 0, none⟩) ss.length cd) := cellOf hb1 0 rfl
  have a1 : w2.cell? ⟨w.heap.size, 1, none⟩ = some (.slice aw ys.length cw) := cellOf hb1 1 rfl
  have a2 : w2.cell? ⟨w.heap.size, 2, none⟩ = some (.int .i64 z) := cellOf hb1 2 rfl
  have a3 : w2.cell? ⟨w.heap.size, 3, none⟩ = some (.bool d) := cellOf hb1 3 rfl
  have b0 : w2.cell? ⟨w.heap.size + 1, 0, none⟩ = some (.slice (some ⟨gd', 0, none⟩) ss'.length cd') := cellOf hb2 0 rfl
  have b1 : w2.cell? ⟨w.heap.size + 1, 1, none⟩ = some (.slice aw' ys'.length cw') := cellOf hb2 1 rfl
  have b2 : w2.cell? ⟨w.heap.size + 1, 2, none⟩ = some (.int .i64 z') := cellOf hb2 2 rfl
  have b3 : w2.cell? ⟨w.heap.size + 1, 3, none⟩ = some (.bool d') := cellOf hb2 3 rfl
  have neqOf : ∀ {α : Type} [BEq α] (x y : α) (b : Bool), (x == y) = b → (x != y) = !b := fun x y b h => by unfold bne; rw [h]
  clear hne q1 q2 q3 q4 h h' hz hz' hd hd' hb1 hb2
  rcases hE with e | ⟨e, e2⟩ | ⟨e, e2, e3⟩ | ⟨e, e2, e3, e4⟩
  · have f := neqOf _ _ _ e
    clear neqOf
    go_enter Try.func32, Try.ntmps32
    go_wp2_with (first
      | (guard_target =~ wpList _ _ _ (⟨some 2, Op.box 45 _, _, _, _, _⟩ :: _) _ _; refine wl rfl (r_boxA (cs := [.slice (some ⟨gd, 0, none⟩) ss.length cd, .slice aw ys.length cw, .int .i64 z, .bool d, .int .i64 D.ops].toArray) rfl rfl) ?_)
      | (guard_target =~ wpList _ _ _ (⟨some 3, Op.box 45 _, _, _, _, _⟩ :: _) _ _; refine wl rfl (r_boxA (cs := [.slice (some ⟨gd', 0, none⟩) ss'.length cd', .slice aw' ys'.length cw', .int .i64 z', .bool d', .int .i64 D'.ops].toArray) rfl rfl) ?_; rw [hw2])
      | fail)
    go_ret
    exact ⟨rfl, HF.out⟩
  · have f := neqOf _ _ _ e
    have f2 := neqOf _ _ _ e2
    clear neqOf
    go_enter Try.func32, Try.ntmps32
    go_wp2_with (first
      | (guard_target =~ wpList _ _ _ (⟨some 2, Op.box 45 _, _, _, _, _⟩ :: _) _ _; refine wl rfl (r_boxA (cs := [.slice (some ⟨gd, 0, none⟩) ss.length cd, .slice aw ys.length cw, .int .i64 z, .bool d, .int .i64 D.ops].toArray) rfl rfl) ?_)
      | (guard_target =~ wpList _ _ _ (⟨some 3, Op.box 45 _, _, _, _, _⟩ :: _) _ _; refine wl rfl (r_boxA (cs := [.slice (some ⟨gd', 0, none⟩) ss'.length cd', .slice aw' ys'.length cw', .int .i64 z', .bool d', .int .i64 D'.ops].toArray) rfl rfl) ?_; rw [hw2])
      | fail)
    go_ret
    exact ⟨rfl, HF.out⟩
  · have f := neqOf _ _ _ e
    have f2 := neqOf _ _ _ e2
    have f3 := neqOf _ _ _ e3
    clear neqOf
    go_enter Try.func32, Try.ntmps32
    go_wp2_with (first
      | (guard_target =~ wpList _ _ _ (⟨some 2, Op.box 45 _, _, _, _, _⟩ :: _) _ _; refine wl rfl (r_boxA (cs := [.slice (some ⟨gd, 0, none⟩) ss.length cd, .slice aw ys.length cw, .int .i64 z, .bool d, .int .i64 D.ops].toArray) rfl rfl) ?_)
      | (guard_target =~ wpList _ _ _ (⟨some 3, Op.box 45 _, _, _, _, _⟩ :: _) _ _; refine wl rfl (r_boxA (cs := [.slice (some ⟨gd', 0, none⟩) ss'.length cd', .slice aw' ys'.length cw', .int .i64 z', .bool d', .int .i64 D'.ops].toArray) rfl rfl) ?_; rw [hw2])
      | fail)
    go_ret
    exact ⟨rfl, HF.out⟩
  · have f := neqOf _ _ _ e
    have f2 := neqOf _ _ _ e2
    have f3 := neqOf _ _ _ e3
    have f4 := neqOf _ _ _ e4
    clear neqOf
    go_enter Try.func32, Try.ntmps32
    go_wp2_with (first
      | (guard_target =~ wpList _ _ _ (⟨some 2, Op.box 45 _, _, _, _, _⟩ :: _) _ _; refine wl rfl (r_boxA (cs := [.slice (some ⟨gd, 0, none⟩) ss.length cd, .slice aw ys.length cw, .int .i64 z, .bool d, .int .i64 D.ops].toArray) rfl rfl) ?_)
      | (guard_target =~ wpList _ _ _ (⟨some 3, Op.box 45 _, _, _, _, _⟩ :: _) _ _; refine wl rfl (r_boxA (cs := [.slice (some ⟨gd', 0, none⟩) ss'.length cd', .slice aw' ys'.length cw', .int .i64 z', .bool d', .int .i64 D'.ops].toArray) rfl rfl) ?_; rw [hw2])
      | fail)
    go_ret
    exact ⟨rfl, HF.out⟩

set_option maxRecDepth 100000 in
set_option maxHeartbeats 4000000 in
theorem Same_c (w : World) (dv wv : Value) (D : Dsk) (dv' wv' : Value) (D' : Dsk) (hD : Dok D) (hD' : Dok D') (h : RefAt w dv wv D) (h' : RefAt w dv' wv' D') (hn : D.n = D'.n) (hp : D.pend.length = D'.pend.length) (hd : D.down = D'.down) (hlm : D.lim = D'.lim) :
    Calls Try.prog 32 #[.agg (refL dv wv D).toArray, .agg (refL dv' wv' D').toArray] w fun e w' => BoolIs w w' e (SameR D D') := by
  obtain ⟨ss, ys, h⟩ := h
  obtain ⟨ss', ys', h'⟩ := h'
  obtain ⟨gd, cd, rfl, hdc⟩ := h.dvAt hD.n0
  obtain ⟨gd', cd', rfl, hdc'⟩ := h'.dvAt hD'.n0
  obtain ⟨aw, cw, rfl, hwc⟩ := h.wvAt'
  obtain ⟨aw', cw', rfl, hwc'⟩ := h'.wvAt'
  have q1 : ss'.length = ss.length := by have := h.nd; have := h'.nd; omega
  have q2 : ys'.length = ys.length := by have := h.nw; have := h'.nw; omega
  have q5 : ss.length ≤ 4096 := by have := h.nd; have := hD.n1; omega
  have q6 : ys.length ≤ 50000 := by have := h.nw; have := hD.len; omega
  unfold refL
  rw [← hlm, ← hd, q1, q2]
  obtain ⟨z, hz⟩ := lim_lit D
  obtain ⟨d, hdd⟩ : ∃ d, D.down = d := ⟨_, rfl⟩
  rw [hz, hdd]
  have hb1 := ((Fr.refl Non _).alloc (.cells [.slice (some ⟨gd', 0, none⟩) ss.length cd', .slice aw' ys.length cw', .int .i64 z, .bool d, .int .i64 D'.ops].toArray 45)).keep (heap_alloc_new w (.cells [.slice (some ⟨gd, 0, none⟩) ss.length cd, .slice aw ys.length cw, .int .i64 z, .bool d, .int .i64 D.ops].toArray 45)) (fun h => h)
  have hb2 := heap_alloc_new (w.alloc (.cells [.slice (some ⟨gd, 0, none⟩) ss.length cd, .slice aw ys.length cw, .int .i64 z, .bool d, .int .i64 D.ops].toArray 45)) (.cells [.slice (some ⟨gd', 0, none⟩) ss.length cd', .slice aw' ys.length cw', .int .i64 z, .bool d, .int .i64 D'.ops].toArray 45)
  rw [World.size_alloc] at hb2
  have HF2 : Hid (Fr Non w ((w.alloc (.cells [.slice (some ⟨gd, 0, none⟩) ss.length cd, .slice aw ys.length cw, .int .i64 z, .bool d, .int .i64 D.ops].toArray 45)).alloc (.cells [.slice (some ⟨gd', 0, none⟩) ss.length cd', .slice aw' ys.length cw', .int .i64 z, .bool d, .int .i64 D'.ops].toArray 45))) := ((Fr.refl _ w).alloc _).alloc _
  obtain ⟨w2, hw2⟩ : ∃ w2, (w.alloc (.cells [.slice (some ⟨gd, 0, none⟩) ss.length cd, .slice aw ys.length cw, .int .i64 z, .bool d, .int .i64 D.ops].toArray 45)).alloc (.cells [.slice (some ⟨gd', 0, none⟩) ss.length cd', .slice aw' ys.length cw', .int .i64 z, .bool d, .int .i64 D'.ops].toArray 45) = w2 := ⟨_, rfl⟩
  rw [hw2] at hb1 hb2 HF2
  have a0 : w2.cell? ⟨w.heap.size, 0, none⟩ = some (.slice (some ⟨gd, 0, none⟩) ss.length cd) := cellOf hb1 0 rfl
  have a1 : w2.cell? ⟨w.heap.size, 1, none⟩ = some (.slice aw ys.length cw) := cellOf hb1 1 rfl
  have a2 : w2.cell? ⟨w.heap.size, 2, none⟩ = some (.int .i64 z) := cellOf hb1 2 rfl
  have a3 : w2.cell? ⟨w.heap.size, 3, none⟩ = some (.bool d) := cellOf hb1 3 rfl
  have b0 : w2.cell? ⟨w.heap.size + 1, 0, none⟩ = some (.slice (some ⟨gd', 0, none⟩) ss.length cd') := cellOf hb2 0 rfl
  have b1 : w2.cell? ⟨w.heap.size + 1, 1, none⟩ = some (.slice aw' ys.length cw') := cellOf hb2 1 rfl
  have b2 : w2.cell? ⟨w.heap.size + 1, 2, none⟩ = some (.int .i64 z) := cellOf hb2 2 rfl
  have b3 : w2.cell? ⟨w.heap.size + 1, 3, none⟩ = some (.bool d) := cellOf hb2 3 rfl
  have HA0 : Hid (∀ W, Fr Non w2 W → W.cell? ⟨w.heap.size, 0, none⟩ = some (.slice (some ⟨gd, 0, none⟩) ss.length cd)) := fun W hW => hW.cell a0 (fun h => h)
  have HA1 : Hid (∀ W, Fr Non w2 W → W.cell? ⟨w.heap.size, 1, none⟩ = some (.slice aw ys.length cw)) := fun W hW => hW.cell a1 (fun h => h)
  have HB0 : Hid (∀ W, Fr Non w2 W → W.cell? ⟨w.heap.size + 1, 0, none⟩ = some (.slice (some ⟨gd', 0, none⟩) ss.length cd')) := fun W hW => hW.cell b0 (fun h => h)
  have HB1 : Hid (∀ W, Fr Non w2 W → W.cell? ⟨w.heap.size + 1, 1, none⟩ = some (.slice aw' ys.length cw')) := fun W hW => hW.cell b1 (fun h => h)
  have H := Lib.hid (h.non HF2.out)
  have H' := Lib.hid (h'.non HF2.out)
  have HDC : Hid (∀ (i : Nat) (s : Raw), ss[i]? = some s → w2.cell? ⟨gd, i, none⟩ = some (rawV s)) := fun i s hs => HF2.out.cell (hdc i s hs) (fun h => h)
  have HDC' : Hid (∀ (i : Nat) (s : Raw), ss'[i]? = some s → w2.cell? ⟨gd', i, none⟩ = some (rawV s)) := fun i s hs => HF2.out.cell (hdc' i s hs) (fun h => h)
  have HWC : Hid (ys ≠ [] → ∃ gw, aw = some ⟨gw, 0, none⟩ ∧ ∀ (i : Nat) (y : Int × Raw), ys[i]? = some y → w2.cell? ⟨gw, i * 2, none⟩ = some (.int .i64 y.1) ∧ w2.cell? ⟨gw, i * 2 + 1, none⟩ = some (rawV y.2)) := fun hne => by
    obtain ⟨gw, e, hh⟩ := hwc hne
    exact ⟨gw, e, fun i y hy => ⟨HF2.out.cell (hh i y hy).1 (fun h => h), HF2.out.cell (hh i y hy).2 (fun h => h)⟩⟩
  have HWC' : Hid (ys' ≠ [] → ∃ gw, aw' = some ⟨gw, 0, none⟩ ∧ ∀ (i : Nat) (y : Int × Raw), ys'[i]? = some y → w2.cell? ⟨gw, i * 2, none⟩ = some (.int .i64 y.1) ∧ w2.cell? ⟨gw, i * 2 + 1, none⟩ = some (rawV y.2)) := fun hne => by
    obtain ⟨gw, e, hh⟩ := hwc' hne
    exact ⟨gw, e, fun i y hy => ⟨HF2.out.cell (hh i y hy).1 (fun h => h), HF2.out.cell (hh i y hy).2 (fun h => h)⟩⟩
  have HQ := Lib.hid (And.intro q1 (And.intro q2 (And.intro q5 q6)))
  have HSAME : Hid (D.n = D'.n ∧ D.down = D'.down ∧ D.lim = D'.lim ∧ D.pend.length = D'.pend.length) := ⟨hn, hd, hlm, hp⟩
  clear h h' hb1 hb2 hdc hdc' hwc hwc' hn hp hd hlm q1 q2 q5 q6 hz hdd
  go_enter Try.func32, Try.ntmps32
  go_wp2_with (first
    | (guard_target =~ wpList _ _ _ (⟨some 2, Op.box 45 _, _, _, _, _⟩ :: _) _ _; refine wl rfl (r_boxA (cs := [.slice (some ⟨gd, 0, none⟩) ss.length cd, .slice aw ys.length cw, .int .i64 z, .bool d, .int .i64 D.ops].toArray) rfl rfl) ?_)
    | (guard_target =~ wpList _ _ _ (⟨some 3, Op.box 45 _, _, _, _, _⟩ :: _) _ _; refine wl rfl (r_boxA (cs := [.slice (some ⟨gd', 0, none⟩) ss.length cd', .slice aw' ys.length cw', .int .i64 z, .bool d, .int .i64 D'.ops].toArray) rfl rfl) ?_; rw [hw2])
    | fail)
  clear a0 a1 a2 a3 b0 b1 b2 b3 hw2
  go_loopw [5] (fun i wr => ∃ k : Nat, i = .int .i64 k ∧ k ≤ ss.length ∧ (∀ j, j < k → D.at j = D'.at j) ∧ Fr Non w2 wr) (fun i _ => ss.length - (intOf i).toNat)
  case atStart => exact ⟨0, rfl, Nat.zero_le _, (fun j h => by omega), Fr.refl _ _⟩
  case round =>
    obtain ⟨k, rfl, hk, hall, hF⟩ := hrel
    have HALL := Lib.hid hall
    have HF := Lib.hid hF
    have a0 := HA0.out wr hF
    clear hall hF
    have hk9 : (k : Int) ≤ 4096 := by have := HQ.out; omega
    by_cases hlt : k < ss.length
    · obtain ⟨s1, hs1⟩ : ∃ s, ss[k]? = some s := ⟨_, List.getElem?_eq_getElem hlt⟩
      obtain ⟨s2, hs2⟩ : ∃ s, ss'[k]? = some s := ⟨_, List.getElem?_eq_getElem (by have := HQ.out; omega)⟩
      obtain ⟨g1, c1, rfl, ho1⟩ := H.out.bd k s1 hs1
      obtain ⟨g2, c2, rfl, ho2⟩ := H'.out.bd k s2 hs2
      have HR1 : Hid (∀ W, Fr Non w2 W → W.cell? ⟨gd, k, none⟩ = some (.slice (some ⟨g1, 0, none⟩) 256 c1)) := fun W hW => hW.cell (HDC.out k _ hs1) (fun h => h)
      have HR2 : Hid (∀ W, Fr Non w2 W → W.cell? ⟨gd', k, none⟩ = some (.slice (some ⟨g2, 0, none⟩) 256 c2)) := fun W hW => hW.cell (HDC'.out k _ hs2) (fun h => h)
      have HSM := Lib.hid (same_c wr.drew (some ⟨g1, 0, none⟩) c1 (some ⟨g2, 0, none⟩) c2 (D.at k) (D'.at k) ((OwnB.bytes ho1).fr0 HF.out.drew (.inr (fun _ _ h => h))) ((OwnB.bytes ho2).fr0 HF.out.drew (.inr (fun _ _ h => h))))
      have HLT := Lib.hid hlt
      have hlt' : (k : Int) < (ss.length : Int) := by omega
      clear hs1 hs2 ho1 ho2 hlt
      go_wp2_with fail
      refine rc (fun W : World => Fr Non w2 W) 10 (by kernel_rfl) ?_
      have hS : (fun W : World => Fr Non w2 W) wr.drew := HF.out.drew
      refine tp (i := 0) (v := .pointer (some ⟨w.heap.size, 0, none⟩)) rfl (by kernel_rfl) (fun _ _ _ h => h) rfl (fun W0 => by unfold RunV; go_simp) (.inr hS) ?_
      simp only [Act.put, List.setIfInBounds_toArray, List.set_cons_zero, List.set_cons_succ]
      refine tp (i := 2) (v := .int .i64 (k : Int)) rfl (by kernel_rfl) (fun _ _ _ h => h) rfl (fun W0 => by unfold RunV; go_simp) (.inr hS) ?_
      simp only [Act.put, List.setIfInBounds_toArray, List.set_cons_zero, List.set_cons_succ]
      refine tp (i := 5) (v := .pointer (some ⟨w.heap.size + 1, 0, none⟩)) rfl (by kernel_rfl) (fun _ _ _ h => h) rfl (fun W0 => by unfold RunV; go_simp) (.inr hS) ?_
      simp only [Act.put, List.setIfInBounds_toArray, List.set_cons_zero, List.set_cons_succ]
      refine tp (i := 7) (v := .int .i64 (k : Int)) rfl (by kernel_rfl) (fun _ _ _ h => h) rfl (fun W0 => by unfold RunV; go_simp) (.inr hS) ?_
      simp only [Act.put, List.setIfInBounds_toArray, List.set_cons_zero, List.set_cons_succ]
      refine tc (i := 1) (v := .slice (some ⟨gd, 0, none⟩) ss.length cd) rfl 8 (by kernel_rfl) (fun _ _ _ h => h) rfl (fun W0 hw => r_load1 rfl rfl (HA0.out W0 hw) (Try.isAgg42 _)) hS ?_
      simp only [Act.put, List.setIfInBounds_toArray, List.set_cons_zero, List.set_cons_succ]
      refine tp (i := 3) (v := .pointer (some ⟨gd, k, none⟩)) rfl (by kernel_rfl) (fun _ _ _ h => h) rfl (fun W0 => by unfold RunV; go_simp) (.inr hS) ?_
      simp only [Act.put, List.setIfInBounds_toArray, List.set_cons_zero, List.set_cons_succ]
      refine tc (i := 4) (v := .slice (some ⟨g1, 0, none⟩) 256 c1) rfl 8 (by kernel_rfl) (fun _ _ _ h => h) rfl (fun W0 hw => r_load1 rfl rfl (HR1.out W0 hw) (Try.isAgg30 _)) hS ?_
      simp only [Act.put, List.setIfInBounds_toArray, List.set_cons_zero, List.set_cons_succ]
      refine tc (i := 6) (v := .slice (some ⟨gd', 0, none⟩) ss.length cd') rfl 8 (by kernel_rfl) (fun _ _ _ h => h) rfl (fun W0 hw => r_load1 rfl rfl (HB0.out W0 hw) (Try.isAgg42 _)) hS ?_
      simp only [Act.put, List.setIfInBounds_toArray, List.set_cons_zero, List.set_cons_succ]
      refine tp (i := 8) (v := .pointer (some ⟨gd', k, none⟩)) rfl (by kernel_rfl) (fun _ _ _ h => h) rfl (fun W0 => by unfold RunV; go_simp) (.inr hS) ?_
      simp only [Act.put, List.setIfInBounds_toArray, List.set_cons_zero, List.set_cons_succ]
      refine tc (i := 9) (v := .slice (some ⟨g2, 0, none⟩) 256 c2) rfl 8 (by kernel_rfl) (fun _ _ _ h => h) rfl (fun W0 hw => r_load1 rfl rfl (HR2.out W0 hw) (Try.isAgg30 _)) hS ?_
      simp only [Act.put, List.setIfInBounds_toArray, List.set_cons_zero, List.set_cons_succ]
      refine oc1 (i := 10) rfl (by kernel_rfl) rfl ?_
      unfold Oper.wp
      go_simp
      refine HSM.out.mono ?_
      rintro e w5 ⟨rfl, rfl⟩
      refine tp (i := 11) (v := .bool (!decide (D.at k = D'.at k))) rfl (by kernel_rfl) (fun _ _ _ h => h) rfl (fun W0 => by unfold RunV; go_simp) (.inl (by kernel_rfl)) ?_
      simp only [Act.put, List.setIfInBounds_toArray, List.set_cons_zero, List.set_cons_succ]
      refine dc (by kernel_rfl) ?_
      clear hS
      cases hb : decide (D.at k = D'.at k) with
      | true =>
        have HE := Lib.hid (of_decide_eq_true hb)
        clear hb
        go_wp2_with fail
        go_roundw
        case rel => exact ⟨k + 1, by go_num, by have := HLT.out; omega, fun j hj => (Nat.lt_or_eq_of_le (Nat.le_of_lt_succ hj)).elim (fun h => HALL.out j h) (fun h => by rw [h]; exact HE.out), HF.out.drew⟩
        case measure => have := HLT.out; simp [intOf] <;> omega
      | false =>
        have HE := Lib.hid (of_decide_eq_false hb)
        have HSZ := Lib.hid H.out.nd
        clear hb
        go_wp2_with fail
        go_ret
        exact ⟨false, rfl, ⟨fun h => (by cases h), fun h => absurd (h.2.2.2.1 k (by have := HSZ.out; have := HLT.out; omega)) HE.out⟩, HF2.out.trans HF.out.drew (fun _ _ h => h)⟩
    · have HE := Lib.hid (show k = ss.length from by omega)
      have HALL2 : Hid (∀ j, j < ss.length → D.at j = D'.at j) := by rw [← HE.out]; exact HALL.out
      have hge : ¬ ((k : Int) < (ss.length : Int)) := by omega
      clear HALL hlt
      go_wp2_with fail
      clear a0 hge hk9
      go_loopw [6] (fun i wx => ∃ k : Nat, i = .int .i64 k ∧ k ≤ ys.length ∧ (∀ j, j < k → D.pend[j]? = D'.pend[j]?) ∧ Fr Non w2 wx) (fun i _ => ys.length - (intOf i).toNat)
      case atStart => exact ⟨0, rfl, Nat.zero_le _, (fun j h => by omega), HF.out⟩
      case round =>
        obtain ⟨k, rfl, hk, hall, hF⟩ := hrel
        have HALL := Lib.hid hall
        have HF := Lib.hid hF
        have a1 := HA1.out wr hF
        clear hall hF
        have hk9 : (k : Int) ≤ 50000 := by have := HQ.out; omega
        by_cases hlt : k < ys.length
        · have hlt' : (k : Int) < (ys.length : Int) := by omega
          obtain ⟨y1, hy1⟩ : ∃ y, ys[k]? = some y := ⟨_, List.getElem?_eq_getElem hlt⟩
          obtain ⟨y2, hy2⟩ : ∃ y, ys'[k]? = some y := ⟨_, List.getElem?_eq_getElem (by have := HQ.out; omega)⟩
          obtain ⟨x, hx⟩ : ∃ x, D.pend[k]? = some x := ⟨_, List.getElem?_eq_getElem (by have := H.out.nw; omega)⟩
          obtain ⟨x', hx'⟩ : ∃ x, D'.pend[k]? = some x := ⟨_, List.getElem?_eq_getElem (by have := H'.out.nw; have := HQ.out; omega)⟩
          obtain ⟨e1, g1, c1, f1, ho1⟩ := H.out.bw k y1 x hy1 hx
          obtain ⟨e2, g2, c2, f2, ho2⟩ := H'.out.bw k y2 x' hy2 hx'
          obtain ⟨y11, y12⟩ := y1
          obtain ⟨y21, y22⟩ := y2
          simp only at e1 f1 e2 f2
          subst e1 f1 e2 f2
          obtain ⟨gw, rfl, hc⟩ := HWC.out (fun e => by rw [e] at hlt; simp at hlt)
          obtain ⟨gw', rfl, hc'⟩ := HWC'.out (fun e => by have h1 := HQ.out.2.1; rw [e] at h1; simp at h1; omega)
          have HY1 : Hid (∀ W, Fr Non w2 W → W.cell? ⟨gw, k * 2, none⟩ = some (.int .i64 x.1)) := fun W hW => hW.cell (hc k _ hy1).1 (fun h => h)
          have HZ1 : Hid (∀ W, Fr Non w2 W → W.cell? ⟨gw, k * 2 + 1, none⟩ = some (.slice (some ⟨g1, 0, none⟩) 256 c1)) := fun W hW => hW.cell (hc k _ hy1).2 (fun h => h)
          have HY2 : Hid (∀ W, Fr Non w2 W → W.cell? ⟨gw', k * 2, none⟩ = some (.int .i64 x'.1)) := fun W hW => hW.cell (hc' k _ hy2).1 (fun h => h)
          have HZ2 : Hid (∀ W, Fr Non w2 W → W.cell? ⟨gw', k * 2 + 1, none⟩ = some (.slice (some ⟨g2, 0, none⟩) 256 c2)) := fun W hW => hW.cell (hc' k _ hy2).2 (fun h => h)
          have HSM := Lib.hid (same_c wr.drew (some ⟨g1, 0, none⟩) c1 (some ⟨g2, 0, none⟩) c2 x.2 x'.2 ((OwnB.bytes ho1).fr0 HF.out.drew (.inr (fun _ _ h => h))) ((OwnB.bytes ho2).fr0 HF.out.drew (.inr (fun _ _ h => h))))
          have HX := Lib.hid (And.intro hx hx')
          have HLT := Lib.hid hlt
          clear hy1 hy2 hx hx' ho1 ho2 hlt hc hc'
          by_cases hxe : x.1 = x'.1
          · rw [← hxe] at HY2
            have HXE := Lib.hid hxe
            clear hxe
            go_wp2_with fail
            · skip
              refine rc (fun W : World => Fr Non w2 W) 26 (by kernel_rfl) ?_
              have hS : (fun W : World => Fr Non w2 W) wr.drew := HF.out.drew
              refine tp (i := 0) (v := .pointer (some ⟨w.heap.size, 1, none⟩)) rfl (by kernel_rfl) (fun _ _ _ h => h) rfl (fun W0 => by unfold RunV; go_simp) (.inr hS) ?_
              simp only [Act.put, List.setIfInBounds_toArray, List.set_cons_zero, List.set_cons_succ]
              refine tp (i := 2) (v := .int .i64 (k : Int)) rfl (by kernel_rfl) (fun _ _ _ h => h) rfl (fun W0 => by unfold RunV; go_simp) (.inr hS) ?_
              simp only [Act.put, List.setIfInBounds_toArray, List.set_cons_zero, List.set_cons_succ]
              refine tp (i := 6) (v := .pointer (some ⟨w.heap.size + 1, 1, none⟩)) rfl (by kernel_rfl) (fun _ _ _ h => h) rfl (fun W0 => by unfold RunV; go_simp) (.inr hS) ?_
              simp only [Act.put, List.setIfInBounds_toArray, List.set_cons_zero, List.set_cons_succ]
              refine tp (i := 8) (v := .int .i64 (k : Int)) rfl (by kernel_rfl) (fun _ _ _ h => h) rfl (fun W0 => by unfold RunV; go_simp) (.inr hS) ?_
              simp only [Act.put, List.setIfInBounds_toArray, List.set_cons_zero, List.set_cons_succ]
              refine tc (i := 1) (v := .slice (some ⟨gw, 0, none⟩) ys.length cw) rfl 8 (by kernel_rfl) (fun _ _ _ h => h) rfl (fun W0 hw => r_load1 rfl rfl (HA1.out W0 hw) (Try.isAgg43 _)) hS ?_
              simp only [Act.put, List.setIfInBounds_toArray, List.set_cons_zero, List.set_cons_succ]
              refine tp (i := 3) (v := .pointer (some ⟨gw, k * 2, none⟩)) rfl (by kernel_rfl) (fun _ _ _ h => h) rfl (fun W0 => by unfold RunV; go_simp) (.inr hS) ?_
              simp only [Act.put, List.setIfInBounds_toArray, List.set_cons_zero, List.set_cons_succ]
              refine tp (i := 4) (v := .pointer (some ⟨gw, k * 2, none⟩)) rfl (by kernel_rfl) (fun _ _ _ h => h) rfl (fun W0 => by unfold RunV; go_simp) (.inr hS) ?_
              simp only [Act.put, List.setIfInBounds_toArray, List.set_cons_zero, List.set_cons_succ]
              refine tc (i := 5) (v := .int .i64 x.1) rfl 8 (by kernel_rfl) (fun _ _ _ h => h) rfl (fun W0 hw => r_load1 rfl rfl (HY1.out W0 hw) (Try.isAgg3 _)) hS ?_
              simp only [Act.put, List.setIfInBounds_toArray, List.set_cons_zero, List.set_cons_succ]
              refine tc (i := 7) (v := .slice (some ⟨gw', 0, none⟩) ys.length cw') rfl 8 (by kernel_rfl) (fun _ _ _ h => h) rfl (fun W0 hw => r_load1 rfl rfl (HB1.out W0 hw) (Try.isAgg43 _)) hS ?_
              simp only [Act.put, List.setIfInBounds_toArray, List.set_cons_zero, List.set_cons_succ]
              refine tp (i := 9) (v := .pointer (some ⟨gw', k * 2, none⟩)) rfl (by kernel_rfl) (fun _ _ _ h => h) rfl (fun W0 => by unfold RunV; go_simp) (.inr hS) ?_
              simp only [Act.put, List.setIfInBounds_toArray, List.set_cons_zero, List.set_cons_succ]
              refine tp (i := 10) (v := .pointer (some ⟨gw', k * 2, none⟩)) rfl (by kernel_rfl) (fun _ _ _ h => h) rfl (fun W0 => by unfold RunV; go_simp) (.inr hS) ?_
              simp only [Act.put, List.setIfInBounds_toArray, List.set_cons_zero, List.set_cons_succ]
              refine tc (i := 11) (v := .int .i64 x.1) rfl 8 (by kernel_rfl) (fun _ _ _ h => h) rfl (fun W0 hw => r_load1 rfl rfl (HY2.out W0 hw) (Try.isAgg3 _)) hS ?_
              simp only [Act.put, List.setIfInBounds_toArray, List.set_cons_zero, List.set_cons_succ]
              refine tp (i := 12) (v := .bool false) rfl (by kernel_rfl) (fun _ _ _ h => h) rfl (fun W0 => r_neqI rfl Try.underlying3 rfl rfl (by simp)) (.inr hS) ?_
              simp only [Act.put, List.setIfInBounds_toArray, List.set_cons_zero, List.set_cons_succ]
              refine tp (i := 13) (v := .bool false) rfl (by kernel_rfl) (fun _ _ _ h => h) rfl (fun W0 => by unfold RunV; go_simp) (.inr hS) ?_
              simp only [Act.put, List.setIfInBounds_toArray, List.set_cons_zero, List.set_cons_succ]
              refine tpg (i := 14) (v := .pointer (some ⟨w.heap.size, 1, none⟩)) rfl (by kernel_rfl) (fun _ _ _ h => h) rfl (fun W0 => by unfold RunV; go_simp) (.inr hS) ?_
              simp only [Act.put, List.setIfInBounds_toArray, List.set_cons_zero, List.set_cons_succ]
              refine tpg (i := 16) (v := .int .i64 (k : Int)) rfl (by kernel_rfl) (fun _ _ _ h => h) rfl (fun W0 => by unfold RunV; go_simp) (.inr hS) ?_
              simp only [Act.put, List.setIfInBounds_toArray, List.set_cons_zero, List.set_cons_succ]
              refine tpg (i := 20) (v := .pointer (some ⟨w.heap.size + 1, 1, none⟩)) rfl (by kernel_rfl) (fun _ _ _ h => h) rfl (fun W0 => by unfold RunV; go_simp) (.inr hS) ?_
              simp only [Act.put, List.setIfInBounds_toArray, List.set_cons_zero, List.set_cons_succ]
              refine tpg (i := 22) (v := .int .i64 (k : Int)) rfl (by kernel_rfl) (fun _ _ _ h => h) rfl (fun W0 => by unfold RunV; go_simp) (.inr hS) ?_
              simp only [Act.put, List.setIfInBounds_toArray, List.set_cons_zero, List.set_cons_succ]
              refine tcg (i := 15) (v := .slice (some ⟨gw, 0, none⟩) ys.length cw) rfl 8 (by kernel_rfl) (fun _ _ _ h => h) rfl (fun W0 hw => r_load1 rfl rfl (HA1.out W0 hw) (Try.isAgg43 _)) hS ?_
              simp only [Act.put, List.setIfInBounds_toArray, List.set_cons_zero, List.set_cons_succ]
              refine tpg (i := 17) (v := .pointer (some ⟨gw, k * 2, none⟩)) rfl (by kernel_rfl) (fun _ _ _ h => h) rfl (fun W0 => by unfold RunV; go_simp) (.inr hS) ?_
              simp only [Act.put, List.setIfInBounds_toArray, List.set_cons_zero, List.set_cons_succ]
              refine tpg (i := 18) (v := .pointer (some ⟨gw, k * 2 + 1, none⟩)) rfl (by kernel_rfl) (fun _ _ _ h => h) rfl (fun W0 => by unfold RunV; go_simp) (.inr hS) ?_
              simp only [Act.put, List.setIfInBounds_toArray, List.set_cons_zero, List.set_cons_succ]
              refine tcg (i := 19) (v := .slice (some ⟨g1, 0, none⟩) 256 c1) rfl 8 (by kernel_rfl) (fun _ _ _ h => h) rfl (fun W0 hw => r_load1 rfl rfl (HZ1.out W0 hw) (Try.isAgg30 _)) hS ?_
              simp only [Act.put, List.setIfInBounds_toArray, List.set_cons_zero, List.set_cons_succ]
              refine tcg (i := 21) (v := .slice (some ⟨gw', 0, none⟩) ys.length cw') rfl 8 (by kernel_rfl) (fun _ _ _ h => h) rfl (fun W0 hw => r_load1 rfl rfl (HB1.out W0 hw) (Try.isAgg43 _)) hS ?_
              simp only [Act.put, List.setIfInBounds_toArray, List.set_cons_zero, List.set_cons_succ]
              refine tpg (i := 23) (v := .pointer (some ⟨gw', k * 2, none⟩)) rfl (by kernel_rfl) (fun _ _ _ h => h) rfl (fun W0 => by unfold RunV; go_simp) (.inr hS) ?_
              simp only [Act.put, List.setIfInBounds_toArray, List.set_cons_zero, List.set_cons_succ]
              refine tpg (i := 24) (v := .pointer (some ⟨gw', k * 2 + 1, none⟩)) rfl (by kernel_rfl) (fun _ _ _ h => h) rfl (fun W0 => by unfold RunV; go_simp) (.inr hS) ?_
              simp only [Act.put, List.setIfInBounds_toArray, List.set_cons_zero, List.set_cons_succ]
              refine tcg (i := 25) (v := .slice (some ⟨g2, 0, none⟩) 256 c2) rfl 8 (by kernel_rfl) (fun _ _ _ h => h) rfl (fun W0 hw => r_load1 rfl rfl (HZ2.out W0 hw) (Try.isAgg30 _)) hS ?_
              simp only [Act.put, List.setIfInBounds_toArray, List.set_cons_zero, List.set_cons_succ]
              refine og1 (i := 26) rfl (by kernel_rfl) rfl ?_
              unfold Oper.wp
              go_simp
              refine HSM.out.mono ?_
              rintro e w5 ⟨rfl, rfl⟩
              refine tpg (i := 27) (v := .bool (!decide (x.2 = x'.2))) rfl (by kernel_rfl) (fun _ _ _ h => h) rfl (fun W0 => by unfold RunV; go_simp) (.inl (by kernel_rfl)) ?_
              simp only [Act.put, List.setIfInBounds_toArray, List.set_cons_zero, List.set_cons_succ]
              refine tp (i := 28) (v := .bool (!decide (x.2 = x'.2))) rfl (by kernel_rfl) (fun _ _ _ h => h) rfl (fun W0 => r_pick (b := false) rfl rfl rfl) (.inl (by kernel_rfl)) ?_
              simp only [Act.put, List.setIfInBounds_toArray, List.set_cons_zero, List.set_cons_succ]
              refine dc (by kernel_rfl) ?_
              clear hS
              cases hb : decide (x.2 = x'.2) with
              | true =>
                have HE := Lib.hid (of_decide_eq_true hb)
                clear hb
                go_wp2_with fail
                go_roundw
                case rel => exact ⟨k + 1, by go_num, by have := HLT.out; omega, fun j hj => (Nat.lt_or_eq_of_le (Nat.le_of_lt_succ hj)).elim (fun h => HALL.out j h) (fun h => by rw [h, HX.out.1, HX.out.2, Prod.ext HXE.out HE.out]), HF.out.drew⟩
                case measure => have := HLT.out; simp [intOf] <;> omega
              | false =>
                have HE := Lib.hid (of_decide_eq_false hb)
                clear hb
                go_wp2_with fail
                go_ret
                exact ⟨false, rfl, ⟨fun h => (by cases h), fun h => absurd (by have h1 := HX.out.1; rw [h.2.2.2.2, HX.out.2] at h1; rw [Option.some.inj h1]) HE.out⟩, HF2.out.trans HF.out.drew (fun _ _ h => h)⟩
          · have hne : (x.1 == x'.1) = false := by simp [hxe]
            have HXE := Lib.hid hxe
            clear hxe
            go_wp2_with fail
            · skip
              refine rc (fun W : World => Fr Non w2 W) 28 (by kernel_rfl) ?_
              have hS : (fun W : World => Fr Non w2 W) wr.drew := HF.out.drew
              refine tp (i := 0) (v := .pointer (some ⟨w.heap.size, 1, none⟩)) rfl (by kernel_rfl) (fun _ _ _ h => h) rfl (fun W0 => by unfold RunV; go_simp) (.inr hS) ?_
              simp only [Act.put, List.setIfInBounds_toArray, List.set_cons_zero, List.set_cons_succ]
              refine tp (i := 2) (v := .int .i64 (k : Int)) rfl (by kernel_rfl) (fun _ _ _ h => h) rfl (fun W0 => by unfold RunV; go_simp) (.inr hS) ?_
              simp only [Act.put, List.setIfInBounds_toArray, List.set_cons_zero, List.set_cons_succ]
              refine tp (i := 6) (v := .pointer (some ⟨w.heap.size + 1, 1, none⟩)) rfl (by kernel_rfl) (fun _ _ _ h => h) rfl (fun W0 => by unfold RunV; go_simp) (.inr hS) ?_
              simp only [Act.put, List.setIfInBounds_toArray, List.set_cons_zero, List.set_cons_succ]
              refine tp (i := 8) (v := .int .i64 (k : Int)) rfl (by kernel_rfl) (fun _ _ _ h => h) rfl (fun W0 => by unfold RunV; go_simp) (.inr hS) ?_
              simp only [Act.put, List.setIfInBounds_toArray, List.set_cons_zero, List.set_cons_succ]
              refine tc (i := 1) (v := .slice (some ⟨gw, 0, none⟩) ys.length cw) rfl 8 (by kernel_rfl) (fun _ _ _ h => h) rfl (fun W0 hw => r_load1 rfl rfl (HA1.out W0 hw) (Try.isAgg43 _)) hS ?_
              simp only [Act.put, List.setIfInBounds_toArray, List.set_cons_zero, List.set_cons_succ]
              refine tp (i := 3) (v := .pointer (some ⟨gw, k * 2, none⟩)) rfl (by kernel_rfl) (fun _ _ _ h => h) rfl (fun W0 => by unfold RunV; go_simp) (.inr hS) ?_
              simp only [Act.put, List.setIfInBounds_toArray, List.set_cons_zero, List.set_cons_succ]
              refine tp (i := 4) (v := .pointer (some ⟨gw, k * 2, none⟩)) rfl (by kernel_rfl) (fun _ _ _ h => h) rfl (fun W0 => by unfold RunV; go_simp) (.inr hS) ?_
              simp only [Act.put, List.setIfInBounds_toArray, List.set_cons_zero, List.set_cons_succ]
              refine tc (i := 5) (v := .int .i64 x.1) rfl 8 (by kernel_rfl) (fun _ _ _ h => h) rfl (fun W0 hw => r_load1 rfl rfl (HY1.out W0 hw) (Try.isAgg3 _)) hS ?_
              simp only [Act.put, List.setIfInBounds_toArray, List.set_cons_zero, List.set_cons_succ]
              refine tc (i := 7) (v := .slice (some ⟨gw', 0, none⟩) ys.length cw') rfl 8 (by kernel_rfl) (fun _ _ _ h => h) rfl (fun W0 hw => r_load1 rfl rfl (HB1.out W0 hw) (Try.isAgg43 _)) hS ?_
              simp only [Act.put, List.setIfInBounds_toArray, List.set_cons_zero, List.set_cons_succ]
              refine tp (i := 9) (v := .pointer (some ⟨gw', k * 2, none⟩)) rfl (by kernel_rfl) (fun _ _ _ h => h) rfl (fun W0 => by unfold RunV; go_simp) (.inr hS) ?_
              simp only [Act.put, List.setIfInBounds_toArray, List.set_cons_zero, List.set_cons_succ]
              refine tp (i := 10) (v := .pointer (some ⟨gw', k * 2, none⟩)) rfl (by kernel_rfl) (fun _ _ _ h => h) rfl (fun W0 => by unfold RunV; go_simp) (.inr hS) ?_
              simp only [Act.put, List.setIfInBounds_toArray, List.set_cons_zero, List.set_cons_succ]
              refine tc (i := 11) (v := .int .i64 x'.1) rfl 8 (by kernel_rfl) (fun _ _ _ h => h) rfl (fun W0 hw => r_load1 rfl rfl (HY2.out W0 hw) (Try.isAgg3 _)) hS ?_
              simp only [Act.put, List.setIfInBounds_toArray, List.set_cons_zero, List.set_cons_succ]
              refine tp (i := 12) (v := .bool true) rfl (by kernel_rfl) (fun _ _ _ h => h) rfl (fun W0 => r_neqI rfl Try.underlying3 rfl rfl (by rw [hne]; rfl)) (.inr hS) ?_
              simp only [Act.put, List.setIfInBounds_toArray, List.set_cons_zero, List.set_cons_succ]
              refine tp (i := 13) (v := .bool true) rfl (by kernel_rfl) (fun _ _ _ h => h) rfl (fun W0 => by unfold RunV; go_simp) (.inr hS) ?_
              simp only [Act.put, List.setIfInBounds_toArray, List.set_cons_zero, List.set_cons_succ]
              refine tpn (i := 14) rfl (by kernel_rfl) (fun _ _ _ h => h) rfl (.inr hS) ?_
              simp only [Act.put, List.setIfInBounds_toArray, List.set_cons_zero, List.set_cons_succ]
              refine tpn (i := 16) rfl (by kernel_rfl) (fun _ _ _ h => h) rfl (.inr hS) ?_
              simp only [Act.put, List.setIfInBounds_toArray, List.set_cons_zero, List.set_cons_succ]
              refine tpn (i := 20) rfl (by kernel_rfl) (fun _ _ _ h => h) rfl (.inr hS) ?_
              simp only [Act.put, List.setIfInBounds_toArray, List.set_cons_zero, List.set_cons_succ]
              refine tpn (i := 22) rfl (by kernel_rfl) (fun _ _ _ h => h) rfl (.inr hS) ?_
              simp only [Act.put, List.setIfInBounds_toArray, List.set_cons_zero, List.set_cons_succ]
              refine tpn (i := 15) rfl (by kernel_rfl) (fun _ _ _ h => h) rfl (.inr hS) ?_
              simp only [Act.put, List.setIfInBounds_toArray, List.set_cons_zero, List.set_cons_succ]
              refine tpn (i := 17) rfl (by kernel_rfl) (fun _ _ _ h => h) rfl (.inr hS) ?_
              simp only [Act.put, List.setIfInBounds_toArray, List.set_cons_zero, List.set_cons_succ]
              refine tpn (i := 18) rfl (by kernel_rfl) (fun _ _ _ h => h) rfl (.inr hS) ?_
              simp only [Act.put, List.setIfInBounds_toArray, List.set_cons_zero, List.set_cons_succ]
              refine tpn (i := 19) rfl (by kernel_rfl) (fun _ _ _ h => h) rfl (.inr hS) ?_
              simp only [Act.put, List.setIfInBounds_toArray, List.set_cons_zero, List.set_cons_succ]
              refine tpn (i := 21) rfl (by kernel_rfl) (fun _ _ _ h => h) rfl (.inr hS) ?_
              simp only [Act.put, List.setIfInBounds_toArray, List.set_cons_zero, List.set_cons_succ]
              refine tpn (i := 23) rfl (by kernel_rfl) (fun _ _ _ h => h) rfl (.inr hS) ?_
              simp only [Act.put, List.setIfInBounds_toArray, List.set_cons_zero, List.set_cons_succ]
              refine tpn (i := 24) rfl (by kernel_rfl) (fun _ _ _ h => h) rfl (.inr hS) ?_
              simp only [Act.put, List.setIfInBounds_toArray, List.set_cons_zero, List.set_cons_succ]
              refine tpn (i := 25) rfl (by kernel_rfl) (fun _ _ _ h => h) rfl (.inr hS) ?_
              simp only [Act.put, List.setIfInBounds_toArray, List.set_cons_zero, List.set_cons_succ]
              refine tpn (i := 26) rfl (by kernel_rfl) (fun _ _ _ h => h) rfl (.inr hS) ?_
              simp only [Act.put, List.setIfInBounds_toArray, List.set_cons_zero, List.set_cons_succ]
              refine tpn (i := 27) rfl (by kernel_rfl) (fun _ _ _ h => h) rfl (.inr hS) ?_
              simp only [Act.put, List.setIfInBounds_toArray, List.set_cons_zero, List.set_cons_succ]
              refine oc2 (i := 28) (v := .bool true) rfl (by kernel_rfl) rfl (by kernel_rfl) (r_pick (b := true) rfl rfl rfl) ?_
              simp only [Act.put, List.setIfInBounds_toArray, List.set_cons_zero, List.set_cons_succ]
              refine dc (by kernel_rfl) ?_
              clear hS
              go_wp2_with fail
              go_ret
              exact ⟨false, rfl, ⟨fun h => (by cases h), fun h => absurd (by have h1 := HX.out.1; rw [h.2.2.2.2, HX.out.2] at h1; rw [Option.some.inj h1]) HXE.out⟩, HF2.out.trans HF.out.drew (fun _ _ h => h)⟩
        · have HE := Lib.hid (show k = ys.length from by omega)
          have hge : ¬ ((k : Int) < (ys.length : Int)) := by omega
          clear hlt
          go_wp2_with fail
          go_ret
          refine ⟨true, rfl, ⟨fun _ => ⟨HSAME.out.1, HSAME.out.2.1, HSAME.out.2.2.1, fun j hj => HALL2.out j (by have := H.out.nd; omega), ?_⟩, fun _ => rfl⟩, HF2.out.trans HF.out (fun _ _ h => h)⟩
          apply List.ext_getElem?
          intro j
          by_cases hj : j < ys.length
          · exact HALL.out j (by rw [HE.out]; exact hj)
          · have := H.out.nw
            have := HSAME.out.2.2.2
            rw [List.getElem?_eq_none (by omega), List.getElem?_eq_none (by omega)]
end Go.Proofs.Yticgkbpmaakkiaa
