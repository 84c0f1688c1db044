import Derived.Test.YticgkbpmaakkiaaDk3
namespace Go.Proofs.Yticgkbpmaakkiaa
open Go.RowKit

def Dsk.storeAll (D : Dsk) (l : List (Int × Sec)) : Dsk := l.foldl (fun D x => D.store x.1 x.2) D

theorem storeAll_keeps (l : List (Int × Sec)) : ∀ D : Dsk, (D.storeAll l).pend = D.pend ∧ (D.storeAll l).n = D.n ∧ (D.storeAll l).ops = D.ops ∧ (D.storeAll l).limited = D.limited ∧ (D.storeAll l).limit = D.limit ∧ (D.storeAll l).down = D.down := by
  induction l with
  | nil => intro D; exact ⟨rfl, rfl, rfl, rfl, rfl, rfl⟩
  | cons x r ih => intro D; exact ih (D.store x.1 x.2)

set_option maxRecDepth 100000 in
theorem Flush_ok (w : World) (p m : Nat) (pv : Value) (D : Dsk) (h : DiskAt w p m pv D) (hd : D.down = false) (hs : D.spent = false) (hl : D.pend.length ≤ 100000) :
    Calls Try.prog 19 #[.pointer (some ⟨p, 0, none⟩)] w fun e w' => e = .returned (.int .i64 0) ∧ Step w w' p m pv { D.count.storeAll D.pend with pend := [] } := by
  obtain ⟨c0, c1, c2, c3, c4, c5, c6⟩ := h.cell
  rw [hd] at c6
  have HH := Lib.hid h
  clear h c0 c1 c2 c3 c4 c5
  obtain ⟨a, cap, rfl, hcap, hnil, hag⟩ := Own.shape (show Own w 82 257 wcells pv D.pend from HH.out.hv)
  go_enter Try.func19, Try.ntmps19
  go_wp2_with (first | (go_at_call 39; refine (operate_yes w p m _ D HH.out hs).mono ?_; rintro e w1 ⟨rfl, h1, hF1⟩; obtain ⟨c0, c1, c2, c3, c4, c5, c6⟩ := h1.cell; have HH1 := Lib.hid h1; have HF1 := Lib.hid hF1; clear h1 hF1 c0 c1 c3 c4 c5))
  go_loopw [22] (fun i wr => ∃ k : Nat, k ≤ D.pend.length ∧ i = .int .i64 k ∧ DiskAt wr p m (.slice a D.pend.length cap) (D.count.storeAll (D.pend.take k)) ∧ Fr (Foot p m (.slice a D.pend.length cap)) w wr) (fun i _ => D.pend.length - (intOf i).toNat)
  case atStart => exact ⟨0, by omega, rfl, HH1.out, HF1.out.mono (fun _ _ e => .inl e)⟩
  case round =>
    obtain ⟨k, hk, rfl, hD, hF⟩ := hrel
    have HD := Lib.hid hD
    have HF := Lib.hid hF
    clear hD hF
    by_cases hlt : k < D.pend.length
    · obtain ⟨x, hx⟩ : ∃ x, D.pend[k]? = some x := ⟨_, List.getElem?_eq_getElem hlt⟩
      have HX := Lib.hid hx
      clear hx
      cases a with
      | none => have := hnil rfl; rw [this] at hlt; simp at hlt
      | some ad =>
        obtain ⟨g, rfl⟩ := hag ad rfl
        have hown : Own wr 82 257 wcells (.slice (some ⟨g, 0, none⟩) D.pend.length cap) D.pend := by
          have : (D.count.storeAll (D.pend.take k)).pend = D.pend := (storeAll_keeps _ _).1
          have h := HD.out.hv
          rw [this] at h; exact h
        have hr := Lib.hid (Own.elem elem82 hown HX.out)
        clear hown
        have hW : DiskAt (wr.alloc (.cells (wcells x).toArray 82)) p m (.slice (some ⟨g, 0, none⟩) D.pend.length cap) (D.count.storeAll (D.pend.take k)) := HD.out.fr ((Fr.refl Non wr).alloc _) (fun _ _ h => h)
        have hWF : Fr (Foot p m (.slice (some ⟨g, 0, none⟩) D.pend.length cap)) w (wr.alloc (.cells (wcells x).toArray 82)) := HF.out.alloc _
        have hWh : (wr.alloc (.cells (wcells x).toArray 82)).heap[wr.heap.size]? = some (.cells (wcells x).toArray 82) := heap_alloc_new wr _
        have hc0 : (wr.alloc (.cells (wcells x).toArray 82)).cell? ⟨wr.heap.size, 0, none⟩ = some (.int .i64 x.1) := cellOf hWh 0 (by simp [wcells])
        have hc1 : (wr.alloc (.cells (wcells x).toArray 82)).rangeAt wr.heap.size 1 (u8s x.2.1) := rangeAt_of hWh 1 _ (fun j v hv => by simpa [wcells, Nat.add_comm 1 j] using hv)
        have HW := Lib.hid hW
        have HWF := Lib.hid hWF
        have HC1 := Lib.hid hc1
        clear hW hWF hWh hc1 HD HF
        go_wp2_with (first
          | (guard_target =~ wpList _ _ _ (⟨_, Op.load 82 _, _, _, _, _⟩ :: _) _ _; refine wl rfl (r_load (b := g) (i := k * 257) rfl rfl hr.out Try.underlying82 rfl (by rw [sz82, wcells_length])) ?_)
          | (guard_target =~ wpList _ _ _ (⟨_, Op.alloc 82, _, _, _, _⟩ :: _) _ _; refine wl rfl (r_allocA rfl (zero82 _)) ?_)
          | (guard_target =~ wpList _ _ _ (⟨_, Op.store 82 _ _, _, _, _, _⟩ :: _) _ _; refine wu rfl (r_store_new (c' := (wcells x).toArray) rfl rfl rfl (by simp [sz82, wcells_length]) (by simp [wcells_length, sec_len]) (all_oneCell_toArray (wcells_one x))) ?_; generalize (wr.alloc (.cells (wcells x).toArray 82)) = w2 at *)
          | (guard_target =~ wpList _ _ _ (⟨_, Op.load 80 _, _, _, _, _⟩ :: _) _ _; refine wl rfl (r_load (b := wr.heap.size) (i := 1) rfl rfl HC1.out Try.underlying80 rfl (by rw [sz80, sec_len])) ?_)
          | fail)
        refine (store_c w2 p m _ _ x.1 x.2 HW.out).mono ?_
        rintro e w3 ⟨rfl, h3, hF3⟩
        have H3 := Lib.hid h3
        have HF3 := Lib.hid hF3
        clear h3 hF3
        go_wp2
        go_roundw
        case rel =>
          refine ⟨k + 1, by omega, by go_num, ?_, HWF.out.trans HF3.out (fun i _ e => .inr (.inl e))⟩
          have : D.count.storeAll (D.pend.take (k + 1)) = (D.count.storeAll (D.pend.take k)).store x.1 x.2 := by
            rw [List.take_add_one, HX.out]
            simp [Dsk.storeAll]
          rw [this]
          exact H3.out
        case measure => simp [intOf]; omega
    · obtain rfl : k = D.pend.length := by omega
      rw [List.take_length] at HD
      obtain ⟨d0, d1, d2, d3, d4, d5, d6⟩ := HD.out.cell
      have f2 := HD.out.frozen 2
      have hfin : Step w (wr.setCell ⟨p, 2, none⟩ (.slice none 0 0)) p m (.slice a D.pend.length cap) { D.count.storeAll D.pend with pend := [] } := by
        have hD := HD.out
        obtain ⟨l, hm, hg⟩ := hD.hm
        have hF3 : Fr (· = p) wr (wr.setCell ⟨p, 2, none⟩ (.slice none 0 0)) := (Fr.refl _ wr).setCell _ _ (fun _ => rfl)
        exact ⟨.slice none 0 0, ⟨by rw [heap_setCell_at hD.hp]; rfl, ⟨l, hm.fr hF3 (fun e => hD.mne e), hg⟩, World.ownsRow_nil _ _ _ _⟩, HF.out.trans hF3 (fun i _ e => .inl e), fun k hk => by simp [Value.ownBlock] at hk⟩
      have HFIN := Lib.hid hfin
      clear hfin HD HF d0 d1 d3 d4 d5 d6
      go_wp2
      go_ret
      exact ⟨rfl, HFIN.out⟩
end Go.Proofs.Yticgkbpmaakkiaa
