import Derived.Test.YticgkbpmaakkiaaDkFtoDkGq
namespace Go.Proofs.Yticgkbpmaakkiaa
open Go.RowKit

theorem Bytes_at (w : World) (f s : Int) (hf : 0 ≤ f ∧ f < 256) (hs : 0 ≤ s ∧ s < 256) :
    Calls Try.prog 21 #[.int .u8 f, .int .u8 s] w fun e w' => e = .returned (.slice (some ⟨w.heap.size, 0, none⟩) 256 256) ∧ w'.heap[w.heap.size]? = some (.cells (u8s (bytesL (UInt8.ofNat f.toNat) (UInt8.ofNat s.toNat))).toArray 5) ∧ Fr Non w w' := by
  have h1 : f = ((UInt8.ofNat f.toNat).toNat : Int) := by rw [UInt8.toNat_ofNat']; omega
  have h2 : s = ((UInt8.ofNat s.toNat).toNat : Int) := by rw [UInt8.toNat_ofNat']; omega
  have := Bytes_c w (UInt8.ofNat f.toNat) (UInt8.ofNat s.toNat)
  rw [← h1, ← h2] at this
  exact this

/-- What a call of the device's leaves, seen from a world in which the device was not there yet. -/
theorem foot_new {w w4 w5 : World} {p m : Nat} {pv : Value} (hF : Fr Non w w4) (h5 : Fr (Foot p m pv) w4 w5) (hp : w.heap.size ≤ p) (hm : w.heap.size ≤ m) (ho : ∀ b, pv.ownBlock = some b → w.heap.size ≤ b) : Fr Non w w5 :=
  hF.trans h5 (fun i hi e => by
    rcases e with e | e | e
    · exfalso; omega
    · exfalso; omega
    · have := ho i e; exfalso; omega)
theorem own_new {w w4 : World} {pv pv5 : Value} (hF : Fr Non w w4) (ho : ∀ b, pv.ownBlock = some b → w.heap.size ≤ b) (ho5 : ∀ k, pv5.ownBlock = some k → pv.ownBlock = some k ∨ w4.heap.size ≤ k) : ∀ b, pv5.ownBlock = some b → w.heap.size ≤ b := fun b hb => by
  rcases ho5 b hb with h | h
  · exact ho b h
  · exact Nat.le_trans hF.size h

/-- The cells of a slice of bools. -/
def BoolsAt (w : World) (a : Option Addr) (ks : List Bool) : Prop := ks = [] ∨ ∃ b o, a = some ⟨b, o, none⟩ ∧ ∀ (i : Nat) (k : Bool), ks[i]? = some k → w.cell? ⟨b, o + i, none⟩ = some (.bool k)

set_option maxRecDepth 100000 in
theorem Limit_big (w : World) (n : Int) (a : Option Addr) (cap l : Nat) (hl : 40 < l) :
    Calls Try.prog 4 #[.int .u8 n, .slice a l cap] w fun e w' => e = .returned (.bool true) ∧ Fr Non w w' := by
  have h1 : (40 : Int) < (l : Int) := by omega
  go_enter Try.func4, Try.ntmps4
  go_wp2_with (first
    | (go_at_call 11; refine (known_c w).mono ?_; rintro e w1 ⟨rfl, hF1⟩; have HF1 := Lib.hid hF1; clear hF1)
    | (go_at_call 11; refine (known_c w1).mono ?_; rintro e w2 ⟨rfl, hF2⟩; have HF2 := Lib.hid hF2; clear hF2)
    | fail)
  go_ret
  exact ⟨rfl, HF1.out.trans HF2.out (fun _ _ h => h)⟩

set_option maxRecDepth 100000 in
set_option maxHeartbeats 2000000 in
theorem Limit_small (w : World) (n : Nat) (hn : n < 256) (a : Option Addr) (cap : Nat) (ks : List Bool) (hl : ks.length ≤ 40) (hb : BoolsAt w a ks) :
    Calls Try.prog 4 #[.int .u8 n, .slice a ks.length cap] w fun e w' => e = .returned (.bool true) ∧ Fr Non w w' := by
  have h1 : (ks.length : Int) ≤ 40 := by omega
  have h2 : ((n : Int) % 256) = n := by omega
  have HB := Lib.hid hb
  clear hb
  go_enter Try.func4, Try.ntmps4
  go_wp2_with (first
    | (go_at_call 11; refine (known_c w).mono ?_; rintro e w1 ⟨rfl, hF1⟩; have HF1 := Lib.hid hF1; clear hF1)
    | (go_at_call 12; refine (New_yes w1 3 (by omega) (by omega)).mono ?_; rintro e w2 ⟨rfl, hd2, hF2⟩; have HD2 := Lib.hid hd2; have HF2 := Lib.hid hF2; clear hd2 hF2)
    | (go_at_call 18; refine (SetLimit_c _ _ _ _ _ _ HD2.out).mono ?_; rintro e w3 ⟨rfl, hd3, hF3⟩; have HD3 := Lib.hid hd3; have HF3 := Lib.hid hF3; clear hd3 hF3)
    | fail)
  have hF0 : Hid (Fr Non w w3) := (HF1.out.trans HF2.out (fun _ _ h => h)).trans HF3.out (fun i hi e => by have := HF1.out.size; exfalso; omega)
  have hLim : Hid (Lim n 0 ((Dsk.fresh 3).setLimit n)) := ⟨rfl, Nat.le_refl _, fun _ => ⟨rfl, by simp [Dsk.setLimit], by simp [Dsk.setLimit], rfl⟩, fun h => by omega⟩
  have hpB : Hid (w.heap.size ≤ w1.heap.size) := HF1.out.size
  obtain ⟨m, hm⟩ : ∃ m, m = w1.heap.size := ⟨_, rfl⟩
  rw [← hm] at HD3 hpB
  rw [← hm]
  clear hm
  go_loopw [7] (fun i wr => ∃ k : Nat, k ≤ ks.length ∧ i = .int .i64 k ∧ ∃ pv D, DiskAt wr (m + 1) m pv D ∧ Lim n k D ∧ Fr Non w wr ∧ (∀ b, pv.ownBlock = some b → w.heap.size ≤ b)) (fun i _ => ks.length - (intOf i).toNat)
  case atStart => exact ⟨0, Nat.zero_le _, rfl, _, _, HD3.out, hLim.out, hF0.out, fun b h => by cases h⟩
  case round =>
    obtain ⟨k, hk, rfl, pv, D, hD, hL, hF, ho⟩ := hrel
    have HD := Lib.hid hD
    have HL := Lib.hid hL
    have HF := Lib.hid hF
    have HO := Lib.hid ho
    have HLen : Hid (D.pend.length ≤ 100000) := by have := hL.len; show _ ≤ _; omega
    clear hD hL hF ho
    by_cases hlt : k < ks.length
    · obtain ⟨kb, hkb⟩ : ∃ kb, ks[k]? = some kb := ⟨_, List.getElem?_eq_getElem hlt⟩
      have hcell : ∃ b o, a = some ⟨b, o, none⟩ ∧ w.cell? ⟨b, o + k, none⟩ = some (.bool kb) := by
        rcases HB.out with h | ⟨b, o, h, hc⟩
        · rw [h] at hlt; simp at hlt
        · exact ⟨b, o, h, hc k kb hkb⟩
      obtain ⟨b, o, rfl, hc0⟩ := hcell
      have hkm : ((k : Int) % 256) = k := by omega
      have htm : ((k : Int).tmod 3) = (k : Int) % 3 := Int.tmod_eq_emod_of_nonneg (by omega)
      have HC0 := Lib.hid hc0
      clear hkb hc0
      by_cases hc : k < n
      · have hci : (k : Int) < (n : Int) := by omega
        cases kb
        · go_wp2_with (first
            | (go_at_call 16; refine (Pending_ok _ _ _ _ _ HD.out HLen.out).mono ?_; rintro e w4 ⟨v, rfl, ⟨ys, hy, hyl, -, -⟩, hF4⟩; obtain ⟨a4, cap4, rfl, -, -, -⟩ := Own.shape hy; rw [hyl]; have hc4 := (HF.out.trans hF4 (fun _ _ h => h)).cell HC0.out (fun h => h); have HF4 := Lib.hid hF4; have HD4 := Lib.hid (HD.out.fr hF4 (fun _ _ h => h)); clear hF4 hy hyl)
            | (go_at_call 21; refine (Bytes_at w4 k 1 (by omega) (by omega)).mono ?_; rintro e wb ⟨rfl, hgb, hFb⟩; have HGB := Lib.hid hgb; have HFb := Lib.hid hFb; have HDB := Lib.hid (HD4.out.fr hFb (fun _ _ h => h)); clear hgb hFb)
            | (go_at_call 20; refine (Write_lim _ _ _ _ _ n k 0 (if_pos hc) hn (by omega) _ _ _ ⟨_, bytesL_length _ _⟩ HDB.out HL.out (by omega) (BytesAt.of_block HGB.out 256 256 (bytesL_length _ _).symm) ⟨by have := HD4.out.plt; omega, fun h => by have := (HD4.out.vlt h).1; omega⟩).mono ?_; rintro e w5 ⟨D5, rfl, ⟨pv5, hd5, hF5, ho5⟩, hL5, hP5⟩; obtain ⟨u1, u2, u3, u4⟩ := hL5.up (by omega); have HD5 := Lib.hid hd5; have HF5 := Lib.hid hF5; have HO5 := Lib.hid ho5; have HL5 := Lib.hid hL5; clear hd5 hF5 ho5 hL5 hP5; have HB5 := Lib.hid (HF4.out.trans HFb.out (fun _ _ h => h)))
            | (go_at_call 15; refine (Down_c _ _ _ _ _ HD5.out).mono ?_; rintro e w6 ⟨rfl, rfl⟩; rw [u1])
            | (go_at_call 14; refine (Operations_c _ _ _ _ _ HD5.out).mono ?_; rintro e w6 ⟨rfl, rfl⟩; rw [u4])
            | fail)
          go_roundw
          case rel =>
            have e5 := foot_new (HF.out.trans HB5.out (fun _ _ h => h)) HF5.out (Nat.le_succ_of_le hpB.out) hpB.out HO.out
            have o5 := own_new (HF.out.trans HB5.out (fun _ _ h => h)) HO.out HO5.out
            exact ⟨k + 1, by omega, by go_num, _, _, HD5.out, HL5.out, e5, o5⟩
          case measure => simp [intOf] <;> omega
        · go_wp2_with (first
            | (go_at_call 16; refine (Pending_ok _ _ _ _ _ HD.out HLen.out).mono ?_; rintro e w4 ⟨v, rfl, ⟨ys, hy, hyl, -, -⟩, hF4⟩; obtain ⟨a4, cap4, rfl, -, -, -⟩ := Own.shape hy; rw [hyl]; have hc4 := (HF.out.trans hF4 (fun _ _ h => h)).cell HC0.out (fun h => h); have HF4 := Lib.hid hF4; have HD4 := Lib.hid (HD.out.fr hF4 (fun _ _ h => h)); clear hF4 hy hyl)
            | (go_at_call 19; refine (Flush_lim _ _ _ _ _ n k 0 (if_pos hc) hn (by omega) HD4.out HL.out).mono ?_; rintro e w5 ⟨D5, rfl, ⟨pv5, hd5, hF5, ho5⟩, hL5, hP5⟩; obtain ⟨u1, u2, u3, u4⟩ := hL5.up (by omega); have HD5 := Lib.hid hd5; have HF5 := Lib.hid hF5; have HO5 := Lib.hid ho5; have HL5 := Lib.hid hL5; clear hd5 hF5 ho5 hL5 hP5; have HB5 := Lib.hid HF4.out; have HDB := Lib.hid HD4.out)
            | (go_at_call 15; refine (Down_c _ _ _ _ _ HD5.out).mono ?_; rintro e w6 ⟨rfl, rfl⟩; rw [u1])
            | (go_at_call 14; refine (Operations_c _ _ _ _ _ HD5.out).mono ?_; rintro e w6 ⟨rfl, rfl⟩; rw [u4])
            | fail)
          go_roundw
          case rel =>
            have e5 := foot_new (HF.out.trans HB5.out (fun _ _ h => h)) HF5.out (Nat.le_succ_of_le hpB.out) hpB.out HO.out
            have o5 := own_new (HF.out.trans HB5.out (fun _ _ h => h)) HO.out HO5.out
            exact ⟨k + 1, by omega, by go_num, _, _, HD5.out, HL5.out, e5, o5⟩
          case measure => simp [intOf] <;> omega
      · have hci : (n : Int) ≤ (k : Int) := by omega
        cases kb
        · go_wp2_with (first
            | (go_at_call 16; refine (Pending_ok _ _ _ _ _ HD.out HLen.out).mono ?_; rintro e w4 ⟨v, rfl, ⟨ys, hy, hyl, -, -⟩, hF4⟩; obtain ⟨a4, cap4, rfl, -, -, -⟩ := Own.shape hy; rw [hyl]; have hc4 := (HF.out.trans hF4 (fun _ _ h => h)).cell HC0.out (fun h => h); have HF4 := Lib.hid hF4; have HD4 := Lib.hid (HD.out.fr hF4 (fun _ _ h => h)); clear hF4 hy hyl)
            | (go_at_call 21; refine (Bytes_at w4 k 1 (by omega) (by omega)).mono ?_; rintro e wb ⟨rfl, hgb, hFb⟩; have HGB := Lib.hid hgb; have HFb := Lib.hid hFb; have HDB := Lib.hid (HD4.out.fr hFb (fun _ _ h => h)); clear hgb hFb)
            | (go_at_call 20; refine (Write_lim _ _ _ _ _ n k 28 (if_neg hc) hn (by omega) _ _ _ ⟨_, bytesL_length _ _⟩ HDB.out HL.out (by omega) (BytesAt.of_block HGB.out 256 256 (bytesL_length _ _).symm) ⟨by have := HD4.out.plt; omega, fun h => by have := (HD4.out.vlt h).1; omega⟩).mono ?_; rintro e w5 ⟨D5, rfl, ⟨pv5, hd5, hF5, ho5⟩, hL5, hP5⟩; obtain ⟨u1, u4⟩ := hL5.dn (by omega); have hP := hP5 (by omega); have HD5 := Lib.hid hd5; have HF5 := Lib.hid hF5; have HO5 := Lib.hid ho5; have HL5 := Lib.hid hL5; clear hd5 hF5 ho5 hL5 hP5; have HB5 := Lib.hid (HF4.out.trans HFb.out (fun _ _ h => h)))
            | (go_at_call 15; refine (Down_c _ _ _ _ _ HD5.out).mono ?_; rintro e w6 ⟨rfl, rfl⟩; rw [u1])
            | (go_at_call 16; refine (Pending_ok _ _ _ _ _ HD5.out (by rw [hP]; exact HLen.out)).mono ?_; rintro e w7 ⟨v, rfl, ⟨ys, hy, hyl, -, -⟩, hF7⟩; obtain ⟨a7, cap7, rfl, -, -, -⟩ := Own.shape hy; rw [hyl, hP]; have HF7 := Lib.hid hF7; clear hF7 hy hyl)
            | fail)
          go_roundw
          case rel =>
            have e5 := foot_new (HF.out.trans HB5.out (fun _ _ h => h)) HF5.out (Nat.le_succ_of_le hpB.out) hpB.out HO.out
            have o5 := own_new (HF.out.trans HB5.out (fun _ _ h => h)) HO.out HO5.out
            exact ⟨k + 1, by omega, by go_num, _, _, HD5.out.fr HF7.out (fun _ _ h => h), HL5.out, e5.trans HF7.out (fun _ _ h => h), o5⟩
          case measure => simp [intOf] <;> omega
        · go_wp2_with (first
            | (go_at_call 16; refine (Pending_ok _ _ _ _ _ HD.out HLen.out).mono ?_; rintro e w4 ⟨v, rfl, ⟨ys, hy, hyl, -, -⟩, hF4⟩; obtain ⟨a4, cap4, rfl, -, -, -⟩ := Own.shape hy; rw [hyl]; have hc4 := (HF.out.trans hF4 (fun _ _ h => h)).cell HC0.out (fun h => h); have HF4 := Lib.hid hF4; have HD4 := Lib.hid (HD.out.fr hF4 (fun _ _ h => h)); clear hF4 hy hyl)
            | (go_at_call 19; refine (Flush_lim _ _ _ _ _ n k 28 (if_neg hc) hn (by omega) HD4.out HL.out).mono ?_; rintro e w5 ⟨D5, rfl, ⟨pv5, hd5, hF5, ho5⟩, hL5, hP5⟩; obtain ⟨u1, u4⟩ := hL5.dn (by omega); have hP := hP5 (by omega); have HD5 := Lib.hid hd5; have HF5 := Lib.hid hF5; have HO5 := Lib.hid ho5; have HL5 := Lib.hid hL5; clear hd5 hF5 ho5 hL5 hP5; have HB5 := Lib.hid HF4.out; have HDB := Lib.hid HD4.out)
            | (go_at_call 15; refine (Down_c _ _ _ _ _ HD5.out).mono ?_; rintro e w6 ⟨rfl, rfl⟩; rw [u1])
            | (go_at_call 16; refine (Pending_ok _ _ _ _ _ HD5.out (by rw [hP]; exact HLen.out)).mono ?_; rintro e w7 ⟨v, rfl, ⟨ys, hy, hyl, -, -⟩, hF7⟩; obtain ⟨a7, cap7, rfl, -, -, -⟩ := Own.shape hy; rw [hyl, hP]; have HF7 := Lib.hid hF7; clear hF7 hy hyl)
            | fail)
          go_roundw
          case rel =>
            have e5 := foot_new (HF.out.trans HB5.out (fun _ _ h => h)) HF5.out (Nat.le_succ_of_le hpB.out) hpB.out HO.out
            have o5 := own_new (HF.out.trans HB5.out (fun _ _ h => h)) HO.out HO5.out
            exact ⟨k + 1, by omega, by go_num, _, _, HD5.out.fr HF7.out (fun _ _ h => h), HL5.out, e5.trans HF7.out (fun _ _ h => h), o5⟩
          case measure => simp [intOf] <;> omega
    · have hkl : k = ks.length := by omega
      subst hkl
      clear hlt hk
      rcases Nat.lt_or_ge n ks.length with hc | hc
      · have hci : (n : Int) < (ks.length : Int) := by omega
        obtain ⟨u1, u4⟩ := HL.out.dn hc
        go_wp2_with (first
          | (go_at_call 14; refine (Operations_c _ _ _ _ _ HD.out).mono ?_; rintro e w6 ⟨rfl, rfl⟩; rw [u4])
          | fail)
        go_ret
        exact ⟨rfl, HF.out⟩
      · have hci : (ks.length : Int) ≤ (n : Int) := by omega
        obtain ⟨u1, u2, u3, u4⟩ := HL.out.up hc
        clear u2 u3
        go_wp2_with (first
          | (go_at_call 14; refine (Operations_c _ _ _ _ _ HD.out).mono ?_; rintro e w6 ⟨rfl, rfl⟩; rw [u4])
          | fail)
        go_ret
        exact ⟨rfl, HF.out⟩
end Go.Proofs.Yticgkbpmaakkiaa
