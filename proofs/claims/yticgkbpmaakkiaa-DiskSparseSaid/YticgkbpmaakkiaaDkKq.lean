/-
  The reference's Copy.
-/
import Derived.Test.YticgkbpmaakkiaaDkJq
namespace Go.Proofs.Yticgkbpmaakkiaa
open Go.RowKit

/-- A slice of slices of bytes, each with 256 of its own in a block from B on, no two the same. -/
structure RowsAt (w : World) (B : Nat) (v : Value) (ss : List Raw) (f : Nat → Sec) : Prop where
  own : Own w 30 1 encS v ss
  vb : ∀ b, v.ownBlock = some b → B ≤ b
  el : ∀ (i : Nat) (s : Raw), ss[i]? = some s → ∃ g cap, s = (some ⟨g, 0, none⟩, 256, cap) ∧ OwnB w (.slice (some ⟨g, 0, none⟩) 256 cap) (f i).1 ∧ B ≤ g
  dj : ∀ (i j : Nat) (s t : Raw), ss[i]? = some s → ss[j]? = some t → s.1 = t.1 → i = j

theorem Own.keep {w w' : World} {S : Nat → Prop} (hf : Fr S w w') (hs : Apart w S) {α : Type} {e : TypeId} {k : Nat} {enc : α → List Value} {v : Value} {l : List α} (he : e = 5 ∨ e = 30 ∨ e = 92) (ho : Own w e k enc v l) : Own w' e k enc v l := by
  refine ho.fr hf (fun b hb hS => ?_)
  obtain ⟨cs, hc⟩ := ho.typed hb
  obtain ⟨h1, h2, h3⟩ := hs b hS cs
  rcases he with rfl | rfl | rfl
  · exact h1 hc
  · exact h2 hc
  · exact h3 hc

theorem RowsAt.fr {w w' : World} {B : Nat} {v : Value} {ss : List Raw} {f : Nat → Sec} (h : RowsAt w B v ss f) {S : Nat → Prop} (hf : Fr S w w') (hs : Apart w S) : RowsAt w' B v ss f :=
  ⟨h.own.keep hf hs (.inr (.inl rfl)), h.vb, fun i s hi => by obtain ⟨g, cap, e, ho, hb⟩ := h.el i s hi; exact ⟨g, cap, e, ho.keep hf hs (.inl rfl), hb⟩, h.dj⟩
theorem RowsAt.nil (w : World) (B : Nat) (f : Nat → Sec) : RowsAt w B (.slice none 0 0) [] f := ⟨Own.nil _ _ _ _, fun b h => (by cases h), fun i s h => (by cases h), fun i j s t h => (by cases h)⟩

theorem getElem?_snoc {α : Type} {l : List α} {a x : α} {i : Nat} (h : (l ++ [a])[i]? = some x) : (i < l.length ∧ l[i]? = some x) ∨ (i = l.length ∧ x = a) := by
  by_cases hi : i < l.length
  · rw [List.getElem?_append_left hi] at h; exact .inl ⟨hi, h⟩
  · have hl := (List.getElem?_eq_some_iff.1 h).1
    simp at hl
    obtain rfl : i = l.length := by omega
    rw [List.getElem?_append_right (Nat.le_refl _)] at h
    simp at h
    exact .inr ⟨rfl, h.symm⟩

theorem RowsAt.snoc {w w2 : World} {B : Nat} {v v' : Value} {ss : List Raw} {f : Nat → Sec} (h : RowsAt w B v ss f) {g cap : Nat} (hx : OwnB w (.slice (some ⟨g, 0, none⟩) 256 cap) (f ss.length).1) (hg : B ≤ g) (hB : B ≤ w.heap.size)
    (hne : ∀ (i : Nat) (s : Raw), ss[i]? = some s → s.1 ≠ some ⟨g, 0, none⟩) (hv : Own w2 30 1 encS v' (ss ++ [(some ⟨g, 0, none⟩, 256, cap)])) (hgr : w.grownBy w2 v.ownBlock) (hb : ∀ b, v'.ownBlock = some b → v.ownBlock = some b ∨ w.heap.size ≤ b) :
    RowsAt w2 B v' (ss ++ [(some ⟨g, 0, none⟩, 256, cap)]) f := by
  have hF : Fr (fun k => v.ownBlock = some k) w w2 := (Fr.refl _ w).grown hgr (fun k hk _ => hk)
  refine ⟨hv, fun b hb' => ?_, fun i s hs => ?_, fun i j s t hs ht e => ?_⟩
  · rcases hb b hb' with h1 | h1
    · exact h.vb b h1
    · omega
  · rcases getElem?_snoc hs with ⟨hi, hs⟩ | ⟨rfl, rfl⟩
    · obtain ⟨g', c', e, ho, hb⟩ := h.el i s hs
      exact ⟨g', c', e, Own.fr hF ho (fun b hb => Own.apart ho h.own (by decide) hb), hb⟩
    · exact ⟨g, cap, rfl, Own.fr hF hx (fun b hb => Own.apart hx h.own (by decide) hb), hg⟩
  · rcases getElem?_snoc hs with ⟨hi, hs⟩ | ⟨rfl, rfl⟩ <;> rcases getElem?_snoc ht with ⟨hj, ht⟩ | ⟨rfl, rfl⟩
    · exact h.dj i j s t hs ht e
    · exact absurd e (hne i s hs)
    · exact absurd e.symm (hne j t ht)
    · rfl

/-- The reference's writes, each with 256 bytes of its own in a block from B on, no two the same. -/
structure WrsAt (w : World) (B : Nat) (v : Value) (ys : List (Int × Raw)) (l : List (Int × Sec)) : Prop where
  own : Own w 92 2 encW v ys
  len : ys.length = l.length
  vb : ∀ b, v.ownBlock = some b → B ≤ b
  el : ∀ (i : Nat) (y : Int × Raw) (x : Int × Sec), ys[i]? = some y → l[i]? = some x → y.1 = x.1 ∧ ∃ g cap, y.2 = (some ⟨g, 0, none⟩, 256, cap) ∧ OwnB w (.slice (some ⟨g, 0, none⟩) 256 cap) x.2.1 ∧ B ≤ g
  dj : ∀ (i j : Nat) (s t : Int × Raw), ys[i]? = some s → ys[j]? = some t → s.2.1 = t.2.1 → i = j

theorem WrsAt.fr {w w' : World} {B : Nat} {v : Value} {ys : List (Int × Raw)} {l : List (Int × Sec)} (h : WrsAt w B v ys l) {S : Nat → Prop} (hf : Fr S w w') (hs : Apart w S) : WrsAt w' B v ys l :=
  ⟨h.own.keep hf hs (.inr (.inr rfl)), h.len, h.vb, fun i y x hy hx => by obtain ⟨e1, g, cap, e, ho, hb⟩ := h.el i y x hy hx; exact ⟨e1, g, cap, e, ho.keep hf hs (.inl rfl), hb⟩, h.dj⟩
theorem WrsAt.nil (w : World) (B : Nat) : WrsAt w B (.slice none 0 0) [] [] := ⟨Own.nil _ _ _ _, rfl, fun b h => (by cases h), fun i y x h => (by cases h), fun i j s t h => (by cases h)⟩

theorem WrsAt.snoc {w w2 : World} {B : Nat} {v v' : Value} {ys : List (Int × Raw)} {l : List (Int × Sec)} {x : Int × Sec} (h : WrsAt w B v ys l) {g cap : Nat} (hx : OwnB w (.slice (some ⟨g, 0, none⟩) 256 cap) x.2.1) (hg : B ≤ g) (hB : B ≤ w.heap.size)
    (hne : ∀ (i : Nat) (s : Int × Raw), ys[i]? = some s → s.2.1 ≠ some ⟨g, 0, none⟩) (hv : Own w2 92 2 encW v' (ys ++ [(x.1, (some ⟨g, 0, none⟩, 256, cap))])) (hgr : w.grownBy w2 v.ownBlock) (hb : ∀ b, v'.ownBlock = some b → v.ownBlock = some b ∨ w.heap.size ≤ b) :
    WrsAt w2 B v' (ys ++ [(x.1, (some ⟨g, 0, none⟩, 256, cap))]) (l ++ [x]) := by
  have hF : Fr (fun k => v.ownBlock = some k) w w2 := (Fr.refl _ w).grown hgr (fun k hk _ => hk)
  refine ⟨hv, by simp [h.len], fun b hb' => ?_, fun i y z hy hz => ?_, fun i j s t hs ht e => ?_⟩
  · rcases hb b hb' with h1 | h1
    · exact h.vb b h1
    · omega
  · rcases getElem?_snoc hy with ⟨hi, hy⟩ | ⟨hi, rfl⟩ <;> rcases getElem?_snoc hz with ⟨hj, hz⟩ | ⟨hj, rfl⟩
    · obtain ⟨e1, g', c', e, ho, hb⟩ := h.el i y z hy hz
      exact ⟨e1, g', c', e, Own.fr hF ho (fun b hb => Own.apart ho h.own (by decide) hb), hb⟩
    · have := h.len; omega
    · have := h.len; omega
    · exact ⟨rfl, g, cap, rfl, Own.fr hF hx (fun b hb => Own.apart hx h.own (by decide) hb), hg⟩
  · rcases getElem?_snoc hs with ⟨hi, hs⟩ | ⟨rfl, rfl⟩ <;> rcases getElem?_snoc ht with ⟨hj, ht⟩ | ⟨rfl, rfl⟩
    · exact h.dj i j s t hs ht e
    · exact absurd e (hne i s hs)
    · exact absurd e.symm (hne j t ht)
    · rfl

theorem RowsAt.mono {w : World} {B B' : Nat} {v : Value} {ss : List Raw} {f : Nat → Sec} (h : RowsAt w B v ss f) (hb : B' ≤ B) : RowsAt w B' v ss f :=
  ⟨h.own, fun b e => Nat.le_trans hb (h.vb b e), fun i s hi => by obtain ⟨g, c, e, ho, h2⟩ := h.el i s hi; exact ⟨g, c, e, ho, Nat.le_trans hb h2⟩, h.dj⟩
theorem WrsAt.mono {w : World} {B B' : Nat} {v : Value} {ys : List (Int × Raw)} {l : List (Int × Sec)} (h : WrsAt w B v ys l) (hb : B' ≤ B) : WrsAt w B' v ys l :=
  ⟨h.own, h.len, fun b e => Nat.le_trans hb (h.vb b e), fun i y x hy hx => by obtain ⟨e1, g, c, e, ho, h2⟩ := h.el i y x hy hx; exact ⟨e1, g, c, e, ho, Nat.le_trans hb h2⟩, h.dj⟩
theorem OwnB.lt {w : World} {g cap : Nat} {l : List UInt8} {n : Nat} (h : OwnB w (.slice (some ⟨g, 0, none⟩) n cap) l) : g < w.heap.size := Own.lt h rfl

/-- A reference's device whose every block lies from B on. -/
def RefNew (w : World) (B : Nat) (dv wv : Value) (D : Dsk) : Prop := ∃ ss ys, RowsAt w B dv ss (fun i => D.at i) ∧ (ss.length : Int) = D.n ∧ WrsAt w B wv ys D.pend ∧ ∀ (i j : Nat) (s : Raw) (y : Int × Raw), ss[i]? = some s → ys[j]? = some y → s.1 ≠ y.2.1

theorem RefNew.at {w : World} {B : Nat} {dv wv : Value} {D : Dsk} (h : RefNew w B dv wv D) : RefAt w dv wv D := by
  obtain ⟨ss, ys, h1, h2, h3, h4⟩ := h
  exact ⟨ss, ys, h1.own, h3.own, h2, h3.len, fun i s hi => by obtain ⟨g, c, e, ho, _⟩ := h1.el i s hi; exact ⟨g, c, e, ho⟩, fun i y x hy hx => by obtain ⟨e1, g, c, e, ho, _⟩ := h3.el i y x hy hx; exact ⟨e1, g, c, e, ho⟩, h1.dj, h3.dj, h4⟩
theorem RefNew.fr {w w' : World} {B : Nat} {dv wv : Value} {D : Dsk} (h : RefNew w B dv wv D) {S : Nat → Prop} (hf : Fr S w w') (hs : Apart w S) : RefNew w' B dv wv D := by
  obtain ⟨ss, ys, h1, h2, h3, h4⟩ := h
  exact ⟨ss, ys, h1.fr hf hs, h2, h3.fr hf hs, h4⟩
theorem RefAt.new {w : World} {dv wv : Value} {D : Dsk} (h : RefAt w dv wv D) : RefNew w 0 dv wv D := by
  obtain ⟨ss, ys, h⟩ := h
  exact ⟨ss, ys, ⟨h.hd, fun _ _ => Nat.zero_le _, fun i s hi => by obtain ⟨g, c, e, ho⟩ := h.bd i s hi; exact ⟨g, c, e, ho, Nat.zero_le _⟩, h.dd⟩, h.nd, ⟨h.hw, h.nw, fun _ _ => Nat.zero_le _, fun i y x hy hx => by obtain ⟨e1, g, c, e, ho⟩ := h.bw i y x hy hx; exact ⟨e1, g, c, e, ho, Nat.zero_le _⟩, h.dw⟩, h.dx⟩

set_option maxRecDepth 100000 in
set_option maxHeartbeats 2000000 in
theorem Copy_ref (w : World) (dv wv : Value) (D : Dsk) (hD : Dok D) (h : RefAt w dv wv D) :
    Calls Try.prog 46 #[.agg (refL dv wv D).toArray] w fun e w' => ∃ dv' wv', e = .returned (.agg (refL dv' wv' D).toArray) ∧ RefNew w' w.heap.size dv' wv' D ∧ Fr Non w w' := by
  obtain ⟨ss, ys, h⟩ := h
  obtain ⟨gd, cd, rfl, hdc⟩ := h.dvAt hD.n0
  obtain ⟨aw, cw, rfl, hwc⟩ := h.wvAt
  have hyb : ys.length ≤ 50000 := by have := h.nw; have := hD.len; omega
  have hsb : ss.length ≤ 4096 := by have := h.nd; have := hD.n1; omega
  obtain ⟨w1, w2, hw1, hw2, hs1, hs2, hb, hz, hF2, -, -⟩ := box2 w (refL (.slice (some ⟨gd, 0, none⟩) ss.length cd) (.slice aw ys.length cw) D).toArray
  have H := Lib.hid h
  have HDC := Lib.hid hdc
  have HWC := Lib.hid hwc
  have HB := Lib.hid hb
  have HZ := Lib.hid hz
  have HF2 := Lib.hid hF2
  have HS1 := Lib.hid hs1
  have HS2 := Lib.hid hs2
  clear h hdc hwc hb hz hF2 hs1 hs2
  go_enter Try.func46, Try.ntmps46
  go_wp2_with (first
    | (guard_target =~ wpList _ _ _ (⟨_, Op.box 45 _, _, _, _, _⟩ :: _) _ _; refine wl rfl (r_boxA rfl rfl) ?_; rw [hw1])
    | (guard_target =~ wpList _ _ _ (⟨_, Op.alloc 45, _, _, _, _⟩ :: _) _ _; refine wl rfl (r_allocA rfl (zero45 _)) ?_; rw [hw2])
    | fail)
  go_loopw [3, 4] (fun v u wr => ∃ k : Nat, k ≤ ss.length ∧ u = .int .i64 k ∧ ∃ rs, rs.length = k ∧ RowsAt wr w2.heap.size v rs (fun i => D.at i) ∧ Fr Non w2 wr) (fun _ u _ => ss.length - (intOf u).toNat)
  case atStart => exact ⟨0, Nat.zero_le _, rfl, [], rfl, RowsAt.nil _ _ _, Fr.refl _ _⟩
  case round =>
    obtain ⟨k, hk, rfl, rs, hrl, hR, hF⟩ := hrel
    have HR := Lib.hid hR
    have HF := Lib.hid hF
    have HRL := Lib.hid hrl
    have c0 : wr.cell? ⟨w.heap.size, 0, none⟩ = some (.slice (some ⟨gd, 0, none⟩) ss.length cd) := hF.cell (cellOf HB.out 0 rfl) (fun h => h)
    clear hR hF hrl
    by_cases hlt : k < ss.length
    · obtain ⟨s, hs⟩ : ∃ s, ss[k]? = some s := ⟨_, List.getElem?_eq_getElem hlt⟩
      obtain ⟨g3, cap3, rfl, ho3⟩ := H.out.bd k s hs
      have hFe : Fr Non wr (wr.alloc (.cells #[] 5)) := (Fr.refl _ _).alloc _
      have c0' : (wr.alloc (.cells #[] 5)).cell? ⟨w.heap.size, 0, none⟩ = some (.slice (some ⟨gd, 0, none⟩) ss.length cd) := hFe.cell c0 (fun h => h)
      have d0 : (wr.alloc (.cells #[] 5)).cell? ⟨gd, k, none⟩ = some (.slice (some ⟨g3, 0, none⟩) 256 cap3) := hFe.cell (HF.out.cell (HF2.out.cell (HDC.out k _ hs) (fun h => h)) (fun h => h)) (fun h => h)
      obtain ⟨b4, cap4, w4, hrun4, ho4, hfr4, hle4, hlt4⟩ := run_dup wr (.slice (some ⟨g3, 0, none⟩) 256 cap3) (D.at k).1 (OwnB.bytes ((ho3.fr HF2.out (fun _ _ h => h)).fr HF.out (fun _ _ h => h))) (sec_ne _) (by rw [(D.at k).2]; decide)
      rw [(D.at k).2] at hrun4 ho4
      have HR4 := HR.out.fr (hfr4.alloc (.cells (encS (some ⟨b4, 0, none⟩, 256, cap4)).toArray 30)) (Apart.non _)
      obtain ⟨b5, cap5, w5, hrun5, ho5, hgr5, hlies5, hlt5⟩ := run_append_one elem30 (t := 42) (ty := 42) Try.underlying42 HR4.own (g := w4.heap.size) (x := (some ⟨b4, 0, none⟩, 256, cap4)) (heap_alloc_new w4 _) (by unfold maxLen; rw [HRL.out]; omega) (by rw [HRL.out]; omega)
      rw [HRL.out] at hrun5 ho5
      have hR5 : RowsAt w5 w2.heap.size (.slice (some ⟨b5, 0, none⟩) (k + 1) cap5) (rs ++ [(some ⟨b4, 0, none⟩, 256, cap4)]) (fun i => D.at i) :=
        HR4.snoc (by rw [HRL.out]; exact ho4.fr ((Fr.refl Non w4).alloc _) (fun _ _ h => h)) (by have := HF.out.size; omega) (by have := HF.out.size; have := hfr4.size; simp; omega)
          (fun i t ht e => by
            obtain ⟨g', c', e', ho', _⟩ := HR.out.el i t ht
            rw [e'] at e
            have := OwnB.lt ho'
            have e2 : g' = b4 := by injection e with e; injection e
            omega) ho5 hgr5 (fun b hb => by
              have e : b5 = b := Option.some.inj hb
              rcases hlies5 with h | h
              · exact .inl (by rw [← e]; exact h)
              · exact .inr (by omega))
      have hF5 : Fr Non w2 w5 := ((HF.out.trans hfr4 (fun _ _ h => h)).alloc _).grown hgr5 (fun b hb hlt => by have := HR4.vb b hb; exfalso; omega)
      have HRUN4 := Lib.hid hrun4
      have HRUN5 := Lib.hid hrun5
      have HR5 := Lib.hid hR5
      have HF5 := Lib.hid hF5
      clear hs ho3 hFe hrun4 ho4 hfr4 hle4 hlt4 HR4 hrun5 ho5 hgr5 hlies5 hlt5 hR5 hF5
      go_wp2_with (first
        | (guard_target =~ wpList _ _ _ (⟨_, Op.buildSlice 30 0 _, _, _, _, _⟩ :: _) _ _; refine wl rfl (r_buildSlice (vs := []) rfl rfl (run_empty30 wr)) ?_)
        | (guard_target =~ wpList _ _ _ (⟨_, Op.call { callee := Callee.builtin Builtin.append, args := _, argTypes := #[30, 30] }, _, _, _, _⟩ :: _) _ _; refine wl rfl (r_builtin (vs := [.slice (some ⟨wr.heap.size, 0, none⟩) 0 0, .slice (some ⟨g3, 0, none⟩) 256 cap3]) rfl rfl (builtin_append HRUN4.out)) ?_)
        | (guard_target =~ wpList _ _ _ (⟨_, Op.buildSlice 42 1 _, _, _, _, _⟩ :: _) _ _; refine wl rfl (r_buildSlice (vs := [(0, .slice (some ⟨b4, 0, none⟩) 256 cap4)]) rfl rfl (buildSlice42 w4 (some ⟨b4, 0, none⟩, 256, cap4))) ?_)
        | (guard_target =~ wpList _ _ _ (⟨_, Op.call { callee := Callee.builtin Builtin.append, args := _, argTypes := #[42, 42] }, _, _, _, _⟩ :: _) _ _; refine wl rfl (r_builtin (vs := [u3, .slice (some ⟨w4.heap.size, 0, none⟩) 1 1]) rfl rfl (builtin_append HRUN5.out)) ?_)
        | fail)
      go_roundw
      case rel => exact ⟨k + 1, by omega, by go_num, _, by simp [HRL.out], HR5.out, HF5.out⟩
      case measure => simp [intOf] <;> omega
    · obtain rfl : k = ss.length := by omega
      go_wp2
      have HR2 := Lib.hid HR.out
      obtain ⟨dv', hdv'⟩ : ∃ dv', dv' = u3 := ⟨_, rfl⟩
      go_loopw [5, 6] (fun v u wq => ∃ k : Nat, k ≤ ys.length ∧ u = .int .i64 k ∧ ∃ zs, zs.length = k ∧ WrsAt wq w2.heap.size v zs (D.pend.take k) ∧ RowsAt wq w2.heap.size u3 rs (fun i => D.at i) ∧ (∀ (i j : Nat) (s : Raw) (y : Int × Raw), rs[i]? = some s → zs[j]? = some y → s.1 ≠ y.2.1) ∧ Fr Non w2 wq) (fun _ u _ => ys.length - (intOf u).toNat)
      case atStart => exact ⟨0, Nat.zero_le _, rfl, [], rfl, WrsAt.nil _ _, HR.out, fun i j s y _ h => (by cases h), HF.out⟩
      case round =>
        clear c0
        clear HR HF HR2 hdv'
        obtain ⟨k, hk, rfl, zs, hzl, hZ, hR, hX, hF⟩ := hrel
        have HZZ := Lib.hid hZ
        have HRR := Lib.hid hR
        have HXX := Lib.hid hX
        have HF := Lib.hid hF
        have HZL := Lib.hid hzl
        have c1 : wr.cell? ⟨w.heap.size, 1, none⟩ = some (.slice aw ys.length cw) := hF.cell (cellOf HB.out 1 rfl) (fun h => h)
        clear hZ hR hX hF hzl
        by_cases hlt : k < ys.length
        · obtain ⟨y, hy⟩ : ∃ y, ys[k]? = some y := ⟨_, List.getElem?_eq_getElem hlt⟩
          obtain ⟨x, hx⟩ : ∃ x, D.pend[k]? = some x := ⟨_, List.getElem?_eq_getElem (by have := H.out.nw; omega)⟩
          obtain ⟨gw, rfl, e0, e1⟩ := HWC.out k y hy
          obtain ⟨ey, g3, cap3, ey2, ho3⟩ := H.out.bw k y x hy hx
          rw [ey] at e0
          rw [ey2] at e1
          have HX := Lib.hid hx
          have hFF : Fr Non w wr.drew := (HF2.out.trans HF.out (fun _ _ h => h)).drew
          have hb3 : BytesAt wr.drew (.slice (some ⟨g3, 0, none⟩) 256 cap3) x.2.1 := OwnB.bytes (ho3.fr hFF (fun _ _ h => h))
          have hS0 : ∀ W, Fr Non wr.drew W → (W.cell? ⟨w.heap.size, 1, none⟩ = some (.slice (some ⟨gw, 0, none⟩) ys.length cw) ∧ W.cell? ⟨gw, k * 2, none⟩ = some (.int .i64 x.1) ∧ W.cell? ⟨gw, k * 2 + 1, none⟩ = some (.slice (some ⟨g3, 0, none⟩) 256 cap3)) :=
            fun W hW => ⟨hW.cell (show wr.drew.cell? _ = _ from c1) (fun h => h), hW.cell (hFF.cell e0 (fun h => h)) (fun h => h), hW.cell (hFF.cell e1 (fun h => h)) (fun h => h)⟩
          obtain ⟨b4, cap4, w4, hrun4, ho4, hfr4, hle4, hlt4⟩ := run_dup wr.drew (.slice (some ⟨g3, 0, none⟩) 256 cap3) x.2.1 hb3 (sec_ne _) (by rw [x.2.2]; decide)
          rw [x.2.2] at hrun4 ho4
          have hWe : Fr Non wr.drew (wr.drew.alloc (.cells #[] 5)) := (Fr.refl _ _).alloc _
          have HZ4 := HZZ.out.fr (((Fr.refl Non wr).drew.trans hfr4 (fun _ _ h => h)).alloc (.cells (encW (x.1, (some ⟨b4, 0, none⟩, 256, cap4))).toArray 92)) (Apart.non _)
          obtain ⟨b5, cap5, w5, hrun5, ho5, hgr5, hlies5, hlt5⟩ := run_append_one elem92 (t := 43) (ty := 43) Try.underlying43 HZ4.own (g := w4.heap.size) (x := (x.1, (some ⟨b4, 0, none⟩, 256, cap4))) (heap_alloc_new w4 _) (by unfold maxLen; rw [HZL.out]; omega) (by rw [HZL.out]; omega)
          rw [HZL.out] at hrun5 ho5
          have hszs : wr.heap.size ≤ b4 := hle4
          have hZ5 : WrsAt w5 w2.heap.size (.slice (some ⟨b5, 0, none⟩) (k + 1) cap5) (zs ++ [(x.1, (some ⟨b4, 0, none⟩, 256, cap4))]) (D.pend.take k ++ [x]) :=
            HZ4.snoc (ho4.fr ((Fr.refl Non w4).alloc _) (fun _ _ h => h)) (by have := HF.out.size; omega) (by have := HF.out.size; have := hfr4.size; simp only [World.drew] at this; simp; omega)
              (fun i t ht e => by
                have hi : i < (D.pend.take k).length := by have := (List.getElem?_eq_some_iff.1 ht).1; have := HZZ.out.len; omega
                obtain ⟨_, g', c', e', ho', _⟩ := HZZ.out.el i t _ ht (List.getElem?_eq_getElem hi)
                rw [e'] at e
                have := OwnB.lt ho'
                have e2 : g' = b4 := by injection e with e; injection e
                omega) ho5 hgr5 (fun b hb => by
                  have e : b5 = b := Option.some.inj hb
                  rcases hlies5 with h | h
                  · exact .inl (by rw [← e]; exact h)
                  · exact .inr (by omega))
          have hX5 : ∀ (i j : Nat) (s : Raw) (y : Int × Raw), rs[i]? = some s → (zs ++ [(x.1, (some ⟨b4, 0, none⟩, 256, cap4))])[j]? = some y → s.1 ≠ y.2.1 := by
            intro i j s y hs hy
            rcases getElem?_snoc hy with ⟨_, hy⟩ | ⟨_, rfl⟩
            · exact HXX.out i j s y hs hy
            · intro e
              obtain ⟨g', c', e', ho', _⟩ := HRR.out.el i s hs
              rw [e'] at e
              have := OwnB.lt ho'
              have e2 : g' = b4 := by injection e with e; injection e
              omega
          have hgrF : Fr (fun b => u5.ownBlock = some b) (w4.alloc (.cells (encW (x.1, (some ⟨b4, 0, none⟩, 256, cap4))).toArray 92)) w5 := (Fr.refl _ _).grown hgr5 (fun k hk _ => hk)
          have hR5 : RowsAt w5 w2.heap.size u3 rs (fun i => D.at i) := by
            have h4 := HRR.out.fr (((Fr.refl Non wr).drew.trans hfr4 (fun _ _ h => h)).alloc (.cells (encW (x.1, (some ⟨b4, 0, none⟩, 256, cap4))).toArray 92)) (Apart.non _)
            exact ⟨h4.own.fr hgrF (fun b hb => Own.apart h4.own HZ4.own (by decide) hb), h4.vb, fun i s hi => by obtain ⟨g, c, e, ho, hb⟩ := h4.el i s hi; exact ⟨g, c, e, ho.fr hgrF (fun b hb => Own.apart ho HZ4.own (by decide) hb), hb⟩, h4.dj⟩
          have hF5 : Fr Non w2 w5 := (((HF.out.drew).trans hfr4 (fun _ _ h => h)).alloc _).grown hgr5 (fun b hb hlt => by have := HZ4.vb b hb; exfalso; omega)
          have HRUN4 := Lib.hid hrun4
          have HRUN5 := Lib.hid hrun5
          have HR5 := Lib.hid hR5
          have HF5 := Lib.hid hF5
          have HZ5 := Lib.hid hZ5
          have HX5 := Lib.hid hX5
          have HS := Lib.hid hS0
          have HFR4 := Lib.hid hfr4
          clear hx hy e0 e1 ey ey2 hFF hb3 ho3 hrun4 ho4 hfr4 hle4 hlt4 HZ4 hrun5 ho5 hgr5 hlies5 hlt5 hR5 hF5 hZ5 hX5 hgrF hS0 hszs
          go_wp2_with fail
          refine rc (fun W => W.cell? ⟨w.heap.size, 1, none⟩ = some (.slice (some ⟨gw, 0, none⟩) ys.length cw) ∧ W.cell? ⟨gw, k * 2, none⟩ = some (.int .i64 x.1) ∧ W.cell? ⟨gw, k * 2 + 1, none⟩ = some (.slice (some ⟨g3, 0, none⟩) 256 cap3)) 17 (by kernel_rfl) ?_
          have hS := HS.out wr.drew (Fr.refl _ _)
          refine tc (i := 0) (v := u5) rfl 8 (by kernel_rfl) (fun _ _ _ h => h) rfl (fun w hw => r_move rfl rfl) hS ?_
          simp only [Act.put, List.setIfInBounds_toArray, List.set_cons_zero, List.set_cons_succ]
          refine tc (i := 1) (v := .pointer (some ⟨w.heap.size, 1, none⟩)) rfl 8 (by kernel_rfl) (fun _ _ _ h => h) rfl (fun w hw => by obtain ⟨hw0, hw1, hw2⟩ := hw; unfold RunV; go_simp) hS ?_
          simp only [Act.put, List.setIfInBounds_toArray, List.set_cons_zero, List.set_cons_succ]
          refine tc (i := 2) (v := .slice (some ⟨gw, 0, none⟩) ys.length cw) rfl 8 (by kernel_rfl) (fun _ _ _ h => h) rfl (fun w hw => by obtain ⟨hw0, hw1, hw2⟩ := hw; unfold RunV; go_simp) hS ?_
          simp only [Act.put, List.setIfInBounds_toArray, List.set_cons_zero, List.set_cons_succ]
          refine tc (i := 3) (v := .int .i64 k) rfl 8 (by kernel_rfl) (fun _ _ _ h => h) rfl (fun w hw => r_move rfl rfl) hS ?_
          simp only [Act.put, List.setIfInBounds_toArray, List.set_cons_zero, List.set_cons_succ]
          refine tc (i := 4) (v := .pointer (some ⟨gw, k * 2, none⟩)) rfl 8 (by kernel_rfl) (fun _ _ _ h => h) rfl (fun w hw => by obtain ⟨hw0, hw1, hw2⟩ := hw; unfold RunV; go_simp) hS ?_
          simp only [Act.put, List.setIfInBounds_toArray, List.set_cons_zero, List.set_cons_succ]
          refine tc (i := 5) (v := .pointer (some ⟨gw, k * 2, none⟩)) rfl 8 (by kernel_rfl) (fun _ _ _ h => h) rfl (fun w hw => by obtain ⟨hw0, hw1, hw2⟩ := hw; unfold RunV; go_simp) hS ?_
          simp only [Act.put, List.setIfInBounds_toArray, List.set_cons_zero, List.set_cons_succ]
          refine tc (i := 6) (v := .int .i64 x.1) rfl 8 (by kernel_rfl) (fun _ _ _ h => h) rfl (fun w hw => by obtain ⟨hw0, hw1, hw2⟩ := hw; unfold RunV; go_simp) hS ?_
          simp only [Act.put, List.setIfInBounds_toArray, List.set_cons_zero, List.set_cons_succ]
          refine tc (i := 8) (v := .pointer (some ⟨w.heap.size, 1, none⟩)) rfl 8 (by kernel_rfl) (fun _ _ _ h => h) rfl (fun w hw => by obtain ⟨hw0, hw1, hw2⟩ := hw; unfold RunV; go_simp) hS ?_
          simp only [Act.put, List.setIfInBounds_toArray, List.set_cons_zero, List.set_cons_succ]
          refine tc (i := 9) (v := .slice (some ⟨gw, 0, none⟩) ys.length cw) rfl 8 (by kernel_rfl) (fun _ _ _ h => h) rfl (fun w hw => by obtain ⟨hw0, hw1, hw2⟩ := hw; unfold RunV; go_simp) hS ?_
          simp only [Act.put, List.setIfInBounds_toArray, List.set_cons_zero, List.set_cons_succ]
          refine tc (i := 10) (v := .int .i64 k) rfl 8 (by kernel_rfl) (fun _ _ _ h => h) rfl (fun w hw => r_move rfl rfl) hS ?_
          simp only [Act.put, List.setIfInBounds_toArray, List.set_cons_zero, List.set_cons_succ]
          refine tc (i := 11) (v := .pointer (some ⟨gw, k * 2, none⟩)) rfl 8 (by kernel_rfl) (fun _ _ _ h => h) rfl (fun w hw => by obtain ⟨hw0, hw1, hw2⟩ := hw; unfold RunV; go_simp) hS ?_
          simp only [Act.put, List.setIfInBounds_toArray, List.set_cons_zero, List.set_cons_succ]
          refine tc (i := 12) (v := .pointer (some ⟨gw, k * 2 + 1, none⟩)) rfl 8 (by kernel_rfl) (fun _ _ _ h => h) rfl (fun w hw => by obtain ⟨hw0, hw1, hw2⟩ := hw; unfold RunV; go_simp) hS ?_
          simp only [Act.put, List.setIfInBounds_toArray, List.set_cons_zero, List.set_cons_succ]
          refine tc (i := 13) (v := .slice (some ⟨g3, 0, none⟩) 256 cap3) rfl 8 (by kernel_rfl) (fun _ _ _ h => h) rfl (fun w hw => by obtain ⟨hw0, hw1, hw2⟩ := hw; unfold RunV; go_simp) hS ?_
          simp only [Act.put, List.setIfInBounds_toArray, List.set_cons_zero, List.set_cons_succ]
          clear hS
          refine oc3 (i := 7) rfl (by kernel_rfl) rfl (w' := wr.drew.alloc (.cells #[] 5)) (HS.out _ hWe) (r_buildSlice (vs := []) rfl rfl (run_empty30 wr.drew)) ?_
          simp only [Act.put, List.setIfInBounds_toArray, List.set_cons_zero, List.set_cons_succ]
          refine oc3 (i := 14) rfl (by kernel_rfl) rfl (w' := w4) (HS.out _ HFR4.out) (r_builtin (vs := [.slice (some ⟨wr.heap.size, 0, none⟩) 0 0, .slice (some ⟨g3, 0, none⟩) 256 cap3]) rfl rfl (builtin_append HRUN4.out)) ?_
          simp only [Act.put, List.setIfInBounds_toArray, List.set_cons_zero, List.set_cons_succ]
          refine oc3 (i := 15) rfl (by kernel_rfl) rfl (w' := w4) (HS.out _ HFR4.out) (r_build (vs := [(0, .int .i64 x.1), (1, .slice (some ⟨b4, 0, none⟩) 256 cap4)]) rfl rfl (build92 w4 x.1 (some ⟨b4, 0, none⟩, 256, cap4))) ?_
          simp only [Act.put, List.setIfInBounds_toArray, List.set_cons_zero, List.set_cons_succ]
          refine oc3 (i := 16) rfl (by kernel_rfl) rfl (w' := w4.alloc (.cells (encW (x.1, (some ⟨b4, 0, none⟩, 256, cap4))).toArray 92)) (HS.out _ (HFR4.out.alloc _)) (r_buildSlice (vs := [(0, .agg (encW (x.1, (some ⟨b4, 0, none⟩, 256, cap4))).toArray)]) rfl rfl (buildSlice43 w4 (x.1, (some ⟨b4, 0, none⟩, 256, cap4)))) ?_
          simp only [Act.put, List.setIfInBounds_toArray, List.set_cons_zero, List.set_cons_succ]
          refine oc2 (i := 17) rfl (by kernel_rfl) rfl (by kernel_rfl) (r_builtin (vs := [u5, .slice (some ⟨w4.heap.size, 0, none⟩) 1 1]) rfl rfl (builtin_append HRUN5.out)) ?_
          simp only [Act.put, List.setIfInBounds_toArray, List.set_cons_zero, List.set_cons_succ]
          refine oc2 (i := 18) (v := .slice (some ⟨b5, 0, none⟩) (k + 1) cap5) rfl (by kernel_rfl) rfl (by kernel_rfl) (r_assign rfl rfl) ?_
          simp only [Act.put, List.setIfInBounds_toArray, List.set_cons_zero, List.set_cons_succ]
          refine dc (by kernel_rfl) ?_
          clear hWe
          go_wp2
          go_roundw
          case rel => exact ⟨k + 1, by omega, by go_num, _, by simp [HZL.out], by rw [List.take_add_one, HX.out]; exact HZ5.out, HR5.out, HX5.out, HF5.out⟩
          case measure => simp [intOf] <;> omega
        · obtain rfl : k = ys.length := by omega
          obtain ⟨a3, c3, rfl, _⟩ := Own.shape HRR.out.own
          obtain ⟨a5, c5, rfl, _⟩ := Own.shape HZZ.out.own
          clear hlt hk
          have hbW : wr.heap[w.heap.size]? = some (.cells (refL (.slice (some ⟨gd, 0, none⟩) ss.length cd) (.slice aw ys.length cw) D).toArray 45) := HF.out.keep HB.out (fun h => h)
          have hzW : wr.heap[w1.heap.size]? = some (.cells zref 45) := HF.out.keep HZ.out (fun h => h)
          have hb1 : ((wr.setCell ⟨w.heap.size, 0, none⟩ (.slice a3 rs.length c3)).setCell ⟨w.heap.size, 1, none⟩ (.slice a5 zs.length c5)).heap[w.heap.size]? = some (.cells (refL (.slice a3 rs.length c3) (.slice a5 zs.length c5) D).toArray 45) := by
            rw [heap_setCell_at (heap_setCell_at hbW _ _)]; rfl
          have hFa : Fr (· = w.heap.size) wr ((wr.setCell ⟨w.heap.size, 0, none⟩ (.slice a3 rs.length c3)).setCell ⟨w.heap.size, 1, none⟩ (.slice a5 zs.length c5)) := ((Fr.refl (· = w.heap.size) wr).setCell _ _ (fun _ => rfl)).setCell _ _ (fun _ => rfl)
          have hz1 := hFa.keep hzW (by have := HS1.out; omega)
          have hr1 := rangeAt_of hb1 0 (refL (.slice a3 rs.length c3) (.slice a5 zs.length c5) D) (by simp)
          have ht1 := there45 hz1 rfl
          have hone : ∀ v ∈ refL (.slice a3 rs.length c3) (.slice a5 zs.length c5) D, v.oneCell' = true := by
            intro v hv
            simp only [refL, List.mem_cons, List.not_mem_nil, or_false] at hv
            rcases hv with rfl | rfl | rfl | rfl | rfl <;> rfl
          have hb2 := put45 hz1 rfl (l := refL (.slice a3 rs.length c3) (.slice a5 zs.length c5) D) rfl
          have hFb : Fr (fun k => k = w.heap.size ∨ k = w1.heap.size) wr (((wr.setCell ⟨w.heap.size, 0, none⟩ (.slice a3 rs.length c3)).setCell ⟨w.heap.size, 1, none⟩ (.slice a5 zs.length c5)).setCells w1.heap.size 0 (refL (.slice a3 rs.length c3) (.slice a5 zs.length c5) D)) := Fr.setCells _ (fun _ => .inr rfl) _ _ _ (hFa.mono (fun _ _ h => .inl h))
          have hAp : Apart wr (fun k => k = w.heap.size ∨ k = w1.heap.size) := by
            rintro k (rfl | rfl) cs
            · rw [hbW]; exact ⟨by simp, by simp, by simp⟩
            · rw [hzW]; exact ⟨by simp, by simp, by simp⟩
          have hnd : (rs.length : Int) = D.n := by rw [HRL.out]; exact H.out.nd
          have hpt : D.pend.take ys.length = D.pend := by rw [H.out.nw, List.take_length]
          have hfin : RefNew (((wr.setCell ⟨w.heap.size, 0, none⟩ (.slice a3 rs.length c3)).setCell ⟨w.heap.size, 1, none⟩ (.slice a5 zs.length c5)).setCells w1.heap.size 0 (refL (.slice a3 rs.length c3) (.slice a5 zs.length c5) D)) w.heap.size (.slice a3 rs.length c3) (.slice a5 zs.length c5) D := by
            have hZ' := HZZ.out
            rw [hpt] at hZ'
            exact ⟨rs, zs, (HRR.out.fr hFb hAp).mono HF2.out.size, hnd, (hZ'.fr hFb hAp).mono HF2.out.size, HXX.out⟩
          have hFn : Fr Non w (((wr.setCell ⟨w.heap.size, 0, none⟩ (.slice a3 rs.length c3)).setCell ⟨w.heap.size, 1, none⟩ (.slice a5 zs.length c5)).setCells w1.heap.size 0 (refL (.slice a3 rs.length c3) (.slice a5 zs.length c5) D)) := (HF2.out.trans HF.out (fun _ _ h => h)).trans hFb (fun i hi e => by have := HS1.out; rcases e with e | e <;> (exfalso; omega))
          have f0 : wr.frozen? ⟨w.heap.size, 0, none⟩ = false := frozenOf hbW 0
          have f1 : wr.frozen? ⟨w.heap.size, 1, none⟩ = false := frozenOf hbW 1
          have d0 : wr.cell? ⟨w.heap.size, 0, none⟩ = some (.slice (some ⟨gd, 0, none⟩) ss.length cd) := cellOf hbW 0 rfl
          have HR1 := Lib.hid hr1
          have HT1 := Lib.hid ht1
          have HONE := Lib.hid hone
          have HB2 := Lib.hid hb2
          have HFIN := Lib.hid hfin
          have HFN := Lib.hid hFn
          clear hbW hzW hb1 hFa hz1 hr1 ht1 hone hb2 hFb hAp hnd hpt hfin hFn
          go_wp2_with (first
            | (guard_target =~ wpList _ _ _ (⟨_, Op.load 45 _, _, _, _, _⟩ :: _) _ _; refine wl rfl (r_load (b := w.heap.size) (i := 0) rfl rfl HR1.out Try.underlying45 rfl (by rw [sz45]; rfl)) ?_)
            | (guard_target =~ wpList _ _ _ (⟨_, Op.store 45 _ _, _, _, _, _⟩ :: _) _ _; refine wu rfl (r_store (b := w1.heap.size) (i := 0) (cs := refL (.slice a3 rs.length c3) (.slice a5 zs.length c5) D) rfl rfl rfl HT1.out (by rw [sz45]; rfl) HONE.out) ?_)
            | fail)
          refine bodyPost_ret (results_cell_row rfl _ _ w1.heap.size 45 _ (0, 0) _ rfl HB2.out Try.underlying45 rfl (by rw [sz45]; rfl)) rfl ⟨(.slice a3 rs.length c3), (.slice a5 zs.length c5), rfl, HFIN.out, HFN.out⟩
end Go.Proofs.Yticgkbpmaakkiaa
