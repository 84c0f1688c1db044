/-
  VisibilityNext: the inputs that the law does not ask about; marks and pick said in what is shown.
-/
import Derived.Test.YtfemaeacmnhdlaaVY
namespace Go.Proofs.Ytfemaeacmnhdlaa
open Go.RowKit

set_option maxRecDepth 100000 in
theorem next_few (w : World) (a : Option Addr) (cap : Nat) (l : List Row) (ga : Option Addr) (gc : Nat) (g : List Id) (now : Int) (hl : l.length ≤ 9223372036854775807) (h : AtL w a 83 rowC l) (hf : ¬ Few l g) :
    Calls Try.prog 15 #[.slice a l.length cap, .slice ga g.length gc, .int .i64 now] w fun e w' => e = .returned (.bool true) ∧ Fr Non w w' := by
  have HF := Lib.hid hf
  have H := Lib.hid h
  have HL := Lib.hid hl
  clear hf h hl
  go_enter Try.func15, Try.ntmps15
  go_wp2_with fail
  refine (known_c w).mono ?_
  rintro e w1 ⟨rfl, hF1⟩
  have HK := Lib.hid (few_f w1 a cap l ga gc g HL.out (H.out.non hF1) HF.out)
  have HF1 := Lib.hid hF1
  clear hF1
  go_wp2_with fail
  refine HK.out.mono ?_
  rintro e w1' ⟨rfl, rfl⟩
  go_wp2_with fail
  refine (known_c w1).mono ?_
  rintro e w2 ⟨rfl, hF2⟩
  have HF2 := Lib.hid hF2
  clear hF2
  go_wp2_with fail
  go_ret
  exact ⟨rfl, HF1.out.trans HF2.out (fun _ _ h => h)⟩

set_option maxRecDepth 100000 in
theorem next_bad (w : World) (a : Option Addr) (cap : Nat) (l : List Row) (ga : Option Addr) (gc : Nat) (g : List Id) (now : Int) (hl : l.length ≤ 9223372036854775807) (hcap : l.length ≤ cap) (h : AtL w a 83 rowC l) (hf : Few l g) (hg : ¬ Good l) :
    Calls Try.prog 15 #[.slice a l.length cap, .slice ga g.length gc, .int .i64 now] w fun e w' => e = .returned (.bool true) ∧ Fr Non w w' := by
  have HF := Lib.hid hf
  have H := Lib.hid h
  have HL := Lib.hid hl
  have HC := Lib.hid hcap
  have HG := Lib.hid hg
  clear hf h hl hcap hg
  go_enter Try.func15, Try.ntmps15
  go_wp2_with fail
  refine (known_c w).mono ?_
  rintro e w1 ⟨rfl, hF1⟩
  have HK := Lib.hid (few_t w1 a cap l ga gc g HL.out (H.out.non hF1) HF.out)
  have HK2 := Lib.hid (check_f w1 a cap l HF.out.2.1 HC.out (H.out.non hF1) HG.out)
  have HF1 := Lib.hid hF1
  clear hF1
  go_wp2_with fail
  refine HK.out.mono ?_
  rintro e w1' ⟨rfl, rfl⟩
  go_wp2_with fail
  refine HK2.out.mono ?_
  rintro e w2 ⟨c, rfl, hc, hF2⟩
  have HF2 := Lib.hid hF2
  clear hF2
  go_wp2_with fail
  refine (known_c w2).mono ?_
  rintro e w3 ⟨rfl, hF3⟩
  have HF3 := Lib.hid hF3
  clear hF3
  go_wp2_with fail
  go_ret
  exact ⟨rfl, (HF1.out.trans HF2.out (fun _ _ h => h)).trans HF3.out (fun _ _ h => h)⟩

theorem shM_eq (l : List Row) (g : List Id) (t : Int) : shM l g t = l.map (shL l g t) := rfl
theorem filter_shown (l : List Row) (g : List Id) (t : Int) : srt ((l.filter (shL l g t)).map (·.id)) = shown l g t := rfl
/-- pick over the law's marks: what is shown. -/
theorem pick_shown (w : World) (a : Option Addr) (cap : Nat) (l : List Row) (g : List Id) (t : Int) (g0 : Nat) (hl : l.length ≤ 30) (h : AtL w a 83 rowC l) (hm : w.heap[g0]? = some (.cells (boolC (shM l g t)) 4)) :
    Calls Try.prog 50 #[.slice a l.length cap, .slice (some ⟨g0, 0, none⟩) l.length l.length, .bool true] w fun e w' => ∃ b c, e = .returned (.slice b (shown l g t).length c) ∧ AtL w' b 32 idC (shown l g t) ∧ Fr Non w w' :=
  (pick_c w a cap l g0 (shL l g t) hl h (by rw [← shM_eq]; exact hm)).mono fun e w' ⟨b, c, he, ha, hf⟩ => ⟨b, c, by rw [shown_length]; exact he, ha, hf⟩
end Go.Proofs.Ytfemaeacmnhdlaa
