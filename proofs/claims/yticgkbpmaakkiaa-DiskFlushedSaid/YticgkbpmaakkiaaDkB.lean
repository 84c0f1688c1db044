import Derived.Test.YticgkbpmaakkiaaDkA
namespace Go.Proofs.Yticgkbpmaakkiaa
open Go.RowKit

theorem store_at (D : Dsk) (k j : Int) (s : Sec) : (D.store k s).at j = if j = k then s else D.at j := by
  unfold Dsk.at Dsk.store
  simp only []
  split
  · split
    · rename_i h; rw [h]; rfl
    · rfl
  · rfl

def knownSec : Sec := ⟨bytesL 7 0, bytesL_length 7 0⟩
def known0 : Dsk := { (Dsk.fresh 4).count with pend := [] ++ [(1, knownSec)] }
def known1 : Dsk := { known0 with down := true }
theorem known_see : (known1.restart [8]).see 1 = torn zeroSec knownSec 8 := by
  show (known1.restartTo [8] 1).at 1 = _
  unfold Dsk.restartTo
  simp only [known1, known0, List.nil_append, List.getElem?_cons_zero]
  rw [store_at, if_pos rfl]
  rfl
theorem known_31 : (u8s (torn zeroSec knownSec 8).1)[31]? = some (.int .u8 7) := by kernel_rfl
theorem known_32 : (u8s (torn zeroSec knownSec 8).1)[32]? = some (.int .u8 0) := by kernel_rfl

set_option maxRecDepth 100000 in
set_option maxHeartbeats 1000000 in
theorem known_c (w : World) : Calls Try.prog 11 #[] w fun e w' => e = .returned (.bool true) ∧ Fr Non w w' := by
  go_enter Try.func11, Try.ntmps11
  go_wp2_with (first
    | (go_at_call 12; refine (New_yes w 4 (by omega) (by omega)).mono ?_; rintro e w1 ⟨rfl, h1, hF1⟩; have H1 := Lib.hid h1; have HF1 := Lib.hid hF1; have hp1 : ∃ p, p = w.heap.size + 1 := ⟨_, rfl⟩; clear h1 hF1)
    | (go_at_call 21; refine (Bytes_c w1 7 0).mono ?_; rintro e w2 ⟨rfl, h2, hF2⟩; have H2 := Lib.hid h2; have HF2 := Lib.hid hF2; clear h2 hF2)
    | (go_at_call 20; go_loud (refine (Write_ok w2 _ _ _ (Dsk.fresh 4) 1 _ knownSec (H1.out.fr HF2.out (fun _ _ h => h)) rfl (by decide) rfl (by decide) (BytesAt.of_block H2.out 256 256 rfl) (fun k hk => ⟨by have e : w1.heap.size = k := Option.some.inj hk; have := H1.out.plt; omega, by intro h; cases h⟩)).mono ?_; rintro e w3 ⟨rfl, h3⟩; obtain ⟨pv3, hd3, hF3, ho3⟩ := h3; have H3 := Lib.hid hd3; have HF3 := Lib.hid hF3; have HO3 := Lib.hid ho3; clear hd3 hF3 ho3))
    | (go_at_call 24; refine (Fail_c w3 _ _ pv3 known0 H3.out).mono ?_; rintro e w4 ⟨rfl, hd4, hF4⟩; have H4 := Lib.hid hd4; have HF4 := Lib.hid hF4; clear hd4 hF4)
    | (go_at_call 25; refine (Restart_ok (w4.alloc (.cells #[.int .u8 8] 5)) _ _ pv3 known1 (.slice (some ⟨w4.heap.size, 0, none⟩) 1 1) [8] (H4.out.fr ((Fr.refl Non w4).alloc _) (fun _ _ h => h)) rfl (by decide) (BytesAt.of_block (l := [8]) (t := 5) (heap_alloc_new w4 _) 1 1 rfl) (.inr fun k hk => (by have e : w4.heap.size = k := Option.some.inj hk; have := H4.out.mlt; omega)) (by decide)).mono ?_; rintro e w6 ⟨rfl, h6⟩; obtain ⟨pv6, hd6, hF6, ho6⟩ := h6; have H6 := Lib.hid hd6; have HF6 := Lib.hid hF6; clear hd6 hF6 ho6)
    | (go_at_call 17; refine (Read_ok w6 _ _ pv6 (known1.restart [8]) 1 H6.out rfl rfl (by decide)).mono ?_; rintro e w7 ⟨g, rfl, hg, hlg, hF7⟩; rw [known_see] at hg; have hc31 := cellOf hg 31 (by rw [List.getElem?_toArray]; exact known_31); have hc32 := cellOf hg 32 (by rw [List.getElem?_toArray]; exact known_32); have HF7 := Lib.hid hF7; clear hg hlg hF7)
    | fail)
  go_ret
  refine ⟨rfl, ?_⟩
  have f2 := HF1.out.trans HF2.out (fun _ _ h => h)
  have f3 := f2.trans HF3.out (fun i hi e => by rcases e with e | e | e <;> first | (exfalso; omega) | cases e)
  have f4 := (f3.trans HF4.out (fun i hi e => by exfalso; omega)).alloc (.cells #[.int .u8 8] 5)
  have f6 := f4.trans HF6.out (fun i hi e => by
    rcases e with e | e | e
    · exfalso; omega
    · exfalso; omega
    · rcases HO3.out i e with h | h
      · cases h
      · have := f2.size; exfalso; omega)
  exact f6.trans HF7.out (fun _ _ h => h)
end Go.Proofs.Yticgkbpmaakkiaa
