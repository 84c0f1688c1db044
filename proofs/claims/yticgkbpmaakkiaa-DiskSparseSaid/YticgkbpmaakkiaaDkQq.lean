/-
  The device's Damage.
-/
import Derived.Test.YticgkbpmaakkiaaDkFtoDkHq
import Derived.Laws.BitsAllLaws
namespace Go.Proofs.Yticgkbpmaakkiaa
open Go.RowKit

theorem flat_set {α : Type} {k : Nat} {enc : α → List Value} (hlen : ∀ x, (enc x).length = k) : ∀ (l : List α) (i j : Nat) (x x' : α) (v' : Value), l[i]? = some x → j < k → enc x' = (enc x).set j v' → (l.set i x').flatMap enc = (l.flatMap enc).set (i * k + j) v'
  | [], i, j, x, x', v', h, _, _ => by simp at h
  | y :: r, 0, j, x, x', v', h, hj, hx => by
    simp only [List.getElem?_cons_zero, Option.some.injEq] at h
    subst h
    rw [List.set_cons_zero, List.flatMap_cons, List.flatMap_cons, hx, Nat.zero_mul, Nat.zero_add, List.set_append_left _ _ (by rw [hlen]; exact hj)]
  | y :: r, i + 1, j, x, x', v', h, hj, hx => by
    rw [List.set_cons_succ, List.flatMap_cons, List.flatMap_cons, flat_set hlen r i j x x' v' (by simpa using h) hj hx, List.set_append_right _ _ (by rw [hlen, Nat.add_mul]; omega), hlen, show (i + 1) * k + j - k = i * k + j by rw [Nat.add_mul]; omega]

theorem Own.poke {α : Type} {w : World} {e : TypeId} {k g n cap : Nat} {enc : α → List Value} (hlen : ∀ x, (enc x).length = k) {l : List α} (h : Own w e k enc (.slice (some ⟨g, 0, none⟩) n cap) l) {i j : Nat} {x x' : α} {v' : Value} (hi : l[i]? = some x) (hj : j < k) (hx : enc x' = (enc x).set j v') :
    Own (w.setCell ⟨g, i * k + j, none⟩ v') e k enc (.slice (some ⟨g, 0, none⟩) n cap) (l.set i x') := by
  have hf := flat_set hlen l i j x x' v' hi hj hx
  rcases h with ⟨h1, h2⟩
  rcases h2 with ⟨hh, _⟩ | ⟨g', cap', cur, hv', hb, hg, hc, hm, hs, ht⟩
  · cases hh
  · cases hv'
    refine ⟨by rw [hf, List.length_set, List.length_set]; exact h1, .inr ⟨g, cap, cur.setIfInBounds (i * k + j) v', by simp, hb, heap_setCell_at hg _ v', by simpa using hc, hm, by simpa using hs, ?_⟩⟩
    rw [hf, ← ht]
    simp only [Array.toList_setIfInBounds, List.length_set]
    rw [List.take_set]

theorem Own.frozen {α : Type} {w : World} {e : TypeId} {k g n cap : Nat} {enc : α → List Value} {l : List α} (h : Own w e k enc (.slice (some ⟨g, 0, none⟩) n cap) l) (j : Nat) : w.frozen? ⟨g, j, none⟩ = false := by
  rcases h.2 with ⟨hh, _⟩ | ⟨g', cap', cur, hv', hb, hg, _⟩
  · cases hh
  · cases hv'; exact frozenOf hg j

/-! ### a byte of a sector is changed -/
def xorAt (s : Sec) (i : Nat) (b : UInt8) : Sec := ⟨s.1.set i (s.1.getD i 0 ^^^ b), by rw [List.length_set]; exact s.2⟩
theorem xor8 (a b : UInt8) : bits .xor .u8 (a.toNat : Int) (b.toNat : Int) = ((a ^^^ b).toNat : Int) := by
  rw [u8_xor_nat _ _ (UInt8.toNat_lt a) (UInt8.toNat_lt b), UInt8.toNat_xor]
theorem xorAt_set (s : Sec) (i : Nat) (b c : UInt8) (hc : s.1[i]? = some c) : (xorAt s i b).1 = s.1.set i (c ^^^ b) := by
  unfold xorAt
  simp [List.getD, hc]
theorem xorAt_cells (s : Sec) (i : Nat) (b c : UInt8) (hc : s.1[i]? = some c) : u8s (xorAt s i b).1 = (u8s s.1).set i (.int .u8 ((c ^^^ b).toNat : Int)) := by
  rw [xorAt_set s i b c hc, u8s_set]
def dmg (k : Int) (i : Nat) (b : UInt8) (x : Int × Sec) : Int × Sec := if x.1 = k then (x.1, xorAt x.2 i b) else x
def Dsk.damage (D : Dsk) (k : Int) (i : Nat) (b : UInt8) : Dsk := { D.store k (xorAt (D.at k) i b) with pend := D.pend.map (dmg k i b) }
def Dsk.damageTo (D : Dsk) (k : Int) (i : Nat) (b : UInt8) (q : Nat) : Dsk := { D.store k (xorAt (D.at k) i b) with pend := (D.pend.take q).map (dmg k i b) ++ D.pend.drop q }

set_option maxRecDepth 100000 in
theorem Damage_nil (w : World) (n i b : Int) : Calls Try.prog 35 #[.pointer none, .int .i64 n, .int .i64 i, .int .u8 b] w fun e w' => e = .returned (.int .i64 1) ∧ w = w' := by
  go_enter Try.func35, Try.ntmps35
  go_wp2
  go_ret
  exact ⟨rfl, rfl⟩

set_option maxRecDepth 100000 in
theorem Damage_no (w : World) (p m : Nat) (pv : Value) (D : Dsk) (n i b : Int) (h : DiskAt w p m pv D) (hh : D.has n = false) :
    Calls Try.prog 35 #[.pointer (some ⟨p, 0, none⟩), .int .i64 n, .int .i64 i, .int .u8 b] w fun e w' => e = .returned (.int .i64 8) ∧ w = w' := by
  have HH := Lib.hid h
  clear h
  go_enter Try.func35, Try.ntmps35
  go_wp2_with (first | (go_at_call 37; refine (has_c w p m pv D n HH.out).mono ?_; rintro e w' ⟨rfl, rfl⟩))
  go_ret
  exact ⟨rfl, rfl⟩

set_option maxRecDepth 100000 in
theorem Damage_at (w : World) (p m : Nat) (pv : Value) (D : Dsk) (n i b : Int) (h : DiskAt w p m pv D) (hh : D.has n = true) (hi : i < 0 ∨ 256 ≤ i) :
    Calls Try.prog 35 #[.pointer (some ⟨p, 0, none⟩), .int .i64 n, .int .i64 i, .int .u8 b] w fun e w' => e = .returned (.int .i64 2) ∧ w = w' := by
  have HH := Lib.hid h
  clear h
  rcases hi with hi | hi
  · go_enter Try.func35, Try.ntmps35
    go_wp2_with (first | (go_at_call 37; refine (has_c w p m pv D n HH.out).mono ?_; rintro e w' ⟨rfl, rfl⟩))
    go_ret
    exact ⟨rfl, rfl⟩
  · have h0 : 0 ≤ i := by omega
    go_enter Try.func35, Try.ntmps35
    go_wp2_with (first | (go_at_call 37; refine (has_c w p m pv D n HH.out).mono ?_; rintro e w' ⟨rfl, rfl⟩))
    go_ret
    exact ⟨rfl, rfl⟩

theorem damageTo_get (D : Dsk) (n : Int) (i : Nat) (b : UInt8) (k : Nat) (x : Int × Sec) (hx : D.pend[k]? = some x) : (D.damageTo n i b k).pend[k]? = some x := by
  have hk := (List.getElem?_eq_some_iff.1 hx).1
  show ((D.pend.take k).map (dmg n i b) ++ D.pend.drop k)[k]? = some x
  rw [List.getElem?_append_right (by simp; omega)]
  simp [List.length_take, Nat.min_eq_left (Nat.le_of_lt hk), hx]
theorem damageTo_succ (D : Dsk) (n : Int) (i : Nat) (b : UInt8) (k : Nat) (x : Int × Sec) (hx : D.pend[k]? = some x) : (D.damageTo n i b (k + 1)).pend = (D.damageTo n i b k).pend.set k (dmg n i b x) := by
  have hk := (List.getElem?_eq_some_iff.1 hx).1
  show (D.pend.take (k + 1)).map (dmg n i b) ++ D.pend.drop (k + 1) = ((D.pend.take k).map (dmg n i b) ++ D.pend.drop k).set k (dmg n i b x)
  have hl : ((D.pend.take k).map (dmg n i b)).length = k := by simp; omega
  rw [List.set_append_right _ _ (by omega), hl, Nat.sub_self, List.take_add_one, hx]
  have hd : D.pend.drop k = x :: D.pend.drop (k + 1) := by
    rw [List.drop_eq_getElem_cons hk]
    congr 1
    have := List.getElem?_eq_getElem hk
    rw [hx] at this
    exact (Option.some.inj this).symm
  rw [hd]
  simp
theorem damageTo_length (D : Dsk) (n : Int) (i : Nat) (b : UInt8) (k : Nat) : (D.damageTo n i b k).pend.length = D.pend.length := by
  show ((D.pend.take k).map (dmg n i b) ++ D.pend.drop k).length = _
  simp; omega

/-- The pending writes are turned in place. -/
theorem DiskAt.setPend {w : World} {p m g n cap : Nat} {D D' : Dsk} (h : DiskAt w p m (.slice (some ⟨g, 0, none⟩) n cap) D) {j : Nat} {v : Value} (hv : Own (w.setCell ⟨g, j, none⟩ v) 82 257 wcells (.slice (some ⟨g, 0, none⟩) n cap) D'.pend)
    (h0 : D' = { D with pend := D'.pend }) : DiskAt (w.setCell ⟨g, j, none⟩ v) p m (.slice (some ⟨g, 0, none⟩) n cap) D' := by
  have hF : Fr (· = g) w (w.setCell ⟨g, j, none⟩ v) := (Fr.refl (· = g) w).setCell _ _ (fun _ => rfl)
  obtain ⟨-, h1, h2⟩ := h.vlt (k := g) rfl
  obtain ⟨l, hm, hg⟩ := h.hm
  rw [h0]
  exact ⟨hF.keep h.hp (fun e => h1 e.symm), ⟨l, hm.fr hF (fun e => h2 e.symm), hg⟩, hv⟩

set_option maxRecDepth 100000 in
set_option maxHeartbeats 1000000 in
theorem Damage_ok (w : World) (p m : Nat) (pv : Value) (D : Dsk) (n : Int) (i : Nat) (b : UInt8) (h : DiskAt w p m pv D) (hh : D.has n = true) (hi : i < 256) (hl : D.pend.length ≤ 100000) :
    Calls Try.prog 35 #[.pointer (some ⟨p, 0, none⟩), .int .i64 n, .int .i64 i, .int .u8 b.toNat] w fun e w' => e = .returned (.int .i64 0) ∧ DiskAt w' p m pv (D.damage n i b) ∧ Fr (Foot p m pv) w w' := by
  obtain ⟨c0, c1, c2, c3, c4, c5, c6⟩ := h.cell
  have hlk := lookup75 h n
  have hii : (i : Int) < 256 := by omega
  have hb1 := heap_alloc_new w (.cells (u8s (D.at n).1).toArray 80)
  obtain ⟨w1, hw1⟩ : ∃ w1, w.alloc (.cells (u8s (D.at n).1).toArray 80) = w1 := ⟨_, rfl⟩
  rw [hw1] at hb1
  have hF1 : Fr Non w w1 := by rw [← hw1]; exact (Fr.refl _ w).alloc _
  have hsz1 : w1.heap.size = w.heap.size + 1 := by rw [← hw1]; simp
  obtain ⟨c, hc⟩ : ∃ c, (D.at n).1[i]? = some c := ⟨_, List.getElem?_eq_getElem (by rw [(D.at n).2]; exact hi)⟩
  have d1 : w1.cell? ⟨w.heap.size, i, none⟩ = some (.int .u8 (c.toNat : Int)) := cellOf hb1 i (by simp [u8s_get, hc])
  have f1 : w1.frozen? ⟨w.heap.size, i, none⟩ = false := frozenOf hb1 i
  have hxr := xor8 c b
  have hb2 : (w1.setCell ⟨w.heap.size, i, none⟩ (.int .u8 ((c ^^^ b).toNat : Int))).heap[w.heap.size]? = some (.cells (u8s (xorAt (D.at n) i b).1).toArray 80) := by
    rw [heap_setCell_at hb1, xorAt_cells _ _ _ _ hc]
    simp
  have hF2 : Fr Non w (w1.setCell ⟨w.heap.size, i, none⟩ (.int .u8 ((c ^^^ b).toNat : Int))) := hF1.setCell _ _ (fun h => by simp at h)
  have HH := Lib.hid h
  have HW1 := Lib.hid hw1
  have HB2 := Lib.hid hb2
  have HF2 := Lib.hid hF2
  have HC := Lib.hid hc
  clear h c0 c2 c3 c4 c5 c6 hb1 hF1 hsz1 hb2 hF2 hc hw1
  obtain ⟨a, cap, rfl, hcap, hnil, hag⟩ := Own.shape (show Own w 82 257 wcells pv D.pend from HH.out.hv)
  go_enter Try.func35, Try.ntmps35
  go_wp2_with (first
    | (go_at_call 37; refine (has_c w p m _ D n HH.out).mono ?_; rintro e w' ⟨rfl, rfl⟩)
    | (guard_target =~ wpList _ _ _ (⟨_, Op.alloc 80, _, _, _, _⟩ :: _) _ _; refine wl rfl (r_allocA rfl (zero80 _)) ?_)
    | (guard_target =~ wpList _ _ _ (⟨_, Op.store 80 _ _, _, _, _, _⟩ :: _) _ _; refine wu rfl (r_store_new (c' := (u8s (D.at n).1).toArray) rfl rfl rfl (by simp [sz80, sec_len]) (by simp [sec_len]) (all_oneCell_toArray (u8s_one _))) ?_; rw [HW1.out])
    | (guard_target =~ wpList _ _ _ (⟨_, Op.load 80 _, _, _, _, _⟩ :: _) _ _; refine wl rfl (r_load (b := w.heap.size) (i := 0) (cs := u8s (xorAt (D.at n) i b).1) rfl rfl (rangeAt_of HB2.out 0 _ (by simp)) Try.underlying80 rfl (by rw [sz80, sec_len])) ?_)
    | (go_at_call 40; refine (store_c _ p m _ D n (xorAt (D.at n) i b) (HH.out.fr HF2.out (fun _ _ h => h))).mono ?_; rintro e w3 ⟨rfl, hD3, hF3⟩; have HD3 := Lib.hid hD3; have HF3 := Lib.hid hF3; obtain ⟨_, _, e2, _⟩ := hD3.cell; clear hD3 hF3)
    | fail)
  have HI0 : Hid (DiskAt w3 p m (.slice a D.pend.length cap) (D.damageTo n i b 0)) := HD3.out
  have HF30 : Hid (Fr (Foot p m (.slice a D.pend.length cap)) w w3) := (HF2.out.mono (fun _ _ h => h.elim)).trans HF3.out (fun _ _ e => .inr (.inl e))
  clear e2
  go_loopw [47] (fun u wr => ∃ k : Nat, k ≤ D.pend.length ∧ u = .int .i64 k ∧ DiskAt wr p m (.slice a D.pend.length cap) (D.damageTo n i b k) ∧ Fr (Foot p m (.slice a D.pend.length cap)) w wr) (fun u _ => D.pend.length - (intOf u).toNat)
  case atStart => exact ⟨0, Nat.zero_le _, rfl, HI0.out, HF30.out⟩
  case round =>
    obtain ⟨k, hk, rfl, hD, hF⟩ := hrel
    obtain ⟨_, _, e2, _⟩ := hD.cell
    have HD := Lib.hid hD
    have HF := Lib.hid hF
    clear hD hF
    by_cases hlt : k < D.pend.length
    · obtain ⟨x, hx⟩ : ∃ x, D.pend[k]? = some x := ⟨_, List.getElem?_eq_getElem hlt⟩
      cases a with
      | none => have := hnil rfl; rw [this] at hlt; simp at hlt
      | some ad =>
        obtain ⟨g, rfl⟩ := hag ad rfl
        have hown : Own wr 82 257 wcells (.slice (some ⟨g, 0, none⟩) D.pend.length cap) (D.damageTo n i b k).pend := HD.out.hv
        have hgx := damageTo_get D n i b k x hx
        have hr := Own.elem elem82 hown hgx
        obtain ⟨c', hc'⟩ : ∃ c', x.2.1[i]? = some c' := ⟨_, List.getElem?_eq_getElem (by rw [x.2.2]; exact hi)⟩
        have g0 : wr.cell? ⟨g, k * 257, none⟩ = some (.int .i64 x.1) := by have := hr 0 (.int .i64 x.1) (by simp [wcells]); simpa using this
        have g1 : wr.cell? ⟨g, k * 257 + 1 + i, none⟩ = some (.int .u8 (c'.toNat : Int)) := by
          have := hr (1 + i) (.int .u8 (c'.toNat : Int)) (by simp [wcells, Nat.add_comm 1 i, u8s_get, hc'])
          rwa [← Nat.add_assoc] at this
        have gf : wr.frozen? ⟨g, k * 257 + 1 + i, none⟩ = false := hown.frozen _
        have hxr' := xor8 c' b
        have hsucc := damageTo_succ D n i b k x hx
        have HSU := Lib.hid hsucc
        have HOWN := Lib.hid hown
        have HGX := Lib.hid hgx
        have HC' := Lib.hid hc'
        clear hx hown hgx hr hc' hsucc
        by_cases hxn : x.1 = n
        · have hdm : dmg n i b x = (x.1, xorAt x.2 i b) := if_pos hxn
          have hown2 : Own (wr.setCell ⟨g, k * 257 + 1 + i, none⟩ (.int .u8 ((c' ^^^ b).toNat : Int))) 82 257 wcells (.slice (some ⟨g, 0, none⟩) D.pend.length cap) (D.damageTo n i b (k + 1)).pend := by
            rw [HSU.out, Nat.add_assoc]
            refine HOWN.out.poke wcells_length HGX.out (by omega) ?_
            rw [hdm, Nat.add_comm 1 i]
            show _ :: u8s (xorAt x.2 i b).1 = (_ :: u8s x.2.1).set (i + 1) _
            rw [List.set_cons_succ, xorAt_cells _ _ _ _ HC'.out]
          have hD2 : DiskAt (wr.setCell ⟨g, k * 257 + 1 + i, none⟩ (.int .u8 ((c' ^^^ b).toNat : Int))) p m (.slice (some ⟨g, 0, none⟩) D.pend.length cap) (D.damageTo n i b (k + 1)) := HD.out.setPend hown2 rfl
          have HD2 := Lib.hid hD2
          have HF2' := Lib.hid (HF.out.setCell ⟨g, k * 257 + 1 + i, none⟩ (.int .u8 ((c' ^^^ b).toNat : Int)) (fun _ => .inr (.inr rfl)))
          have hxb : (x.1 == n) = true := beq_iff_eq.2 hxn
          clear hown2 hD2 hdm hxn
          go_wp2_with fail
          refine rt 15 (by kernel_rfl) (by kernel_rfl) ?_
          simp only [List.take_succ_cons, List.take_zero, List.drop_succ_cons, List.drop_zero]
          iterate 15 still_step
          refine ws_nil ?_
          refine wu rfl (w' := (wr.setCell ⟨g, k * 257 + 1 + i, none⟩ (.int .u8 ((c' ^^^ b).toNat : Int))).drew) (by unfold RunU; go_simp) ?_
          clear g0 g1 gf e2
          generalize wr.setCell ⟨g, k * 257 + 1 + i, none⟩ (.int .u8 ((c' ^^^ b).toNat : Int)) = W8 at *
          go_wp2
          go_roundw
          case rel => exact ⟨k + 1, by omega, by go_num, HD2.out.drewN 1, HF2'.out.drew⟩
          case measure => simp [intOf] <;> omega
        · have hdm : dmg n i b x = x := if_neg hxn
          have hpe : (D.damageTo n i b (k + 1)) = (D.damageTo n i b k) := by
            have : (D.damageTo n i b (k + 1)).pend = (D.damageTo n i b k).pend := by
              rw [HSU.out, hdm]
              exact (by
                have h := HGX.out
                apply List.ext_getElem?
                intro q
                rw [List.getElem?_set]
                split
                · rename_i e; subst e; rw [h]; split <;> first | rfl | (rename_i h2; exact absurd ((List.getElem?_eq_some_iff.1 h).1) h2)
                · rfl)
            show ({ D.store n (xorAt (D.at n) i b) with pend := (D.damageTo n i b (k + 1)).pend } : Dsk) = _
            rw [this]; rfl
          have HPE := Lib.hid hpe
          have hxb : (x.1 == n) = false := beq_eq_false_iff_ne.2 hxn
          clear hdm hpe hxn g1 gf
          go_wp2
          go_roundw
          case rel => exact ⟨k + 1, by omega, by go_num, by rw [HPE.out]; exact HD.out, HF.out⟩
          case measure => simp [intOf] <;> omega
    · obtain rfl : k = D.pend.length := by omega
      have hfin : D.damageTo n i b D.pend.length = D.damage n i b := by
        unfold Dsk.damageTo Dsk.damage
        rw [List.take_length, List.drop_length, List.append_nil]
      have HFI := Lib.hid hfin
      clear hfin e2
      go_wp2
      go_ret
      exact ⟨rfl, by rw [← HFI.out]; exact HD.out, HF.out⟩
end Go.Proofs.Yticgkbpmaakkiaa
