/-
  VisibilityNext: the law's own walk at a good input.
-/
import Derived.Test.YtfemaeacmnhdlaaVZa
namespace Go.Proofs.Ytfemaeacmnhdlaa
open Go.RowKit

set_option maxRecDepth 100000 in
set_option maxHeartbeats 2000000 in
theorem next_good (w : World) (a : Option Addr) (cap : Nat) (l : List Row) (ga : Option Addr) (gc : Nat) (g : List Id) (now : Int) (hl : l.length ≤ 9223372036854775807) (hcap : l.length ≤ cap) (h : AtL w a 83 rowC l) (hr : RefsAt w l) (h2 : AtL w ga 32 idC g) (hf : Few l g) (hg : Good l) :
    Calls Try.prog 15 #[.slice a l.length cap, .slice ga g.length gc, .int .i64 now] w fun e w' => e = .returned (.bool true) ∧ Fr Non w w' := by
  have HF := Lib.hid hf
  have H := Lib.hid h
  have HL := Lib.hid hl
  have HC := Lib.hid hcap
  have HG := Lib.hid hg
  have HR := Lib.hid hr
  have H2 := Lib.hid h2
  clear hf h hl hcap hg hr h2
  go_enter Try.func15, Try.ntmps15
  go_wp2_with fail
  refine (known_c w).mono ?_
  rintro e w1 ⟨rfl, hF1⟩
  have HK := Lib.hid (few_t w1 a cap l ga gc g HL.out (H.out.non hF1) HF.out)
  have HK2 := Lib.hid (check_t w1 a cap l HF.out.2.1 HC.out (H.out.non hF1) HG.out)
  have HF1 := Lib.hid hF1
  clear hF1
  go_wp2_with fail
  refine HK.out.mono ?_
  rintro e w1' ⟨rfl, rfl⟩
  go_wp2_with fail
  refine HK2.out.mono ?_
  rintro e w2 ⟨rfl, hF2⟩
  have hF02 := HF1.out.trans hF2 (fun _ _ h => h)
  have HL30 := Lib.hid HF.out.2.1
  have hgl : g.length ≤ 1000000 := by have := HF.out.2.2; omega
  have HMA := Lib.hid (fun (W : World) (t : Int) (hW : Fr Non w W) => marks_c W a cap l ga gc g t HL30.out hgl HG.out (H.out.non hW) (HR.out.non hW) (H2.out.non hW))
  have HPI := Lib.hid (fun (W : World) (t : Int) (g0 : Nat) (hW : Fr Non w W) (hm : W.heap[g0]? = some (.cells (boolC (shM l g t)) 4)) => pick_shown W a cap l g t g0 HL30.out (H.out.non hW) hm)
  have HSL := Lib.hid (fun t => (show (shown l g t).length ≤ 1000000 from by have := shown_le l g t; have := HL30.out; omega))
  have HDD := Lib.hid (show ∀ r ∈ l, 0 ≤ r.date from fun r hr => (HG.out.2.1 r hr).1)
  have HK3 := Lib.hid (Next_c w2 a cap l ga gc g now HL30.out HG.out hgl (H.out.non hF02) (HR.out.non hF02) (H2.out.non hF02))
  have HF02 := Lib.hid hF02
  clear hF2 hF02 hgl
  cases hnx : nextL l g now with
  | none =>
    rw [hnx] at HK3
    have HNX := Lib.hid hnx
    clear hnx
    go_wp2_with fail
    refine HK3.out.mono ?_
    rintro e w3 ⟨rfl, hF3⟩
    have HF3 := Lib.hid (HF02.out.trans hF3 (fun _ _ h => h))
    clear hF3
    go_wp2_with fail
    refine (HMA.out w3 now HF3.out).mono ?_
    rintro e w4 ⟨g4, rfl, hh4, -, hF4⟩
    have HM4 := Lib.hid hh4
    have HF34 := Lib.hid (HF3.out.trans hF4 (fun _ _ h => h))
    clear hh4 hF4 HF3
    have HF3 := HF34
    go_wp2_with fail
    go_loopw [11, 12] (fun u i wr => ∃ (k : Nat) (b : Int), u = .int .i64 b ∧ i = .int .i64 k ∧ k ≤ l.length ∧ Best l g now k b ∧ 0 ≤ b ∧ Fr Non w4 wr) (fun _ i _ => l.length - (intOf i).toNat)
    case atStart => exact ⟨0, 0, rfl, rfl, Nat.zero_le _, .inl ⟨rfl, fun t ht => by simp [untils] at ht⟩, Int.le_refl _, Fr.refl _ _⟩
    case round =>
      obtain ⟨k, b, rfl, rfl, hk, hbe, hb0, hF⟩ := hrel
      have HBE := Lib.hid hbe
      have HB0 := Lib.hid hb0
      have HFW := Lib.hid hF
      clear hbe hF
      by_cases hlt : k < l.length
      · obtain ⟨r, hr⟩ : ∃ r, l[k]? = some r := ⟨_, List.getElem?_eq_getElem hlt⟩
        have hk9 : (k : Int) ≤ 30 := by have := HF.out.2.1; omega
        obtain ⟨b1, o1, rfl, hrr⟩ := (H.out.non (HF3.out.trans HFW.out (fun _ _ h => h))).get hr
        have hc48 : wr.cell? ⟨b1, o1 + k * 83 + 48, none⟩ = some (.int .i64 r.date) := hrr 48 _ (rowC_date r)
        have hrl := HG.out.2.1 r (List.mem_of_getElem? hr)
        have hd0 := hrl.1
        have hd1 := hrl.2.1
        have HRE := Lib.hid hr
        have HLT := Lib.hid hlt
        clear hrr hr hrl
        by_cases hn : now < r.date + 2880
        · have HN := Lib.hid hn
          by_cases hbz : b = 0
          · subst hbz
            go_wp2_with fail
            refine (HMA.out wr (r.date + 2880) (HF3.out.trans HFW.out (fun _ _ h => h))).mono ?_
            rintro e w5 ⟨g5, rfl, hh5, -, hF5⟩
            have hF05 := (HF3.out.trans HFW.out (fun _ _ h => h)).trans hF5 (fun _ _ h => h)
            have HP5 := Lib.hid (HPI.out w5 (r.date + 2880) g5 hF05 hh5)
            have HF5 := Lib.hid hF5
            clear hF5 hh5 hF05
            go_wp2_with fail
            refine HP5.out.mono ?_
            rintro e w6 ⟨b6, c6, rfl, hA6, hF6⟩
            have HF6 := Lib.hid (HF5.out.trans hF6 (fun _ _ h => h))
            have HA6 := Lib.hid hA6
            clear hA6 hF6
            have hm6 := (HFW.out.trans HF6.out (fun _ _ h => h)).keep HM4.out (fun h => h)
            have HP6 := Lib.hid (HPI.out w6 now g4 ((HF3.out.trans HFW.out (fun _ _ h => h)).trans HF6.out (fun _ _ h => h)) hm6)
            clear hm6
            go_wp2_with fail
            refine HP6.out.mono ?_
            rintro e w7 ⟨b7, c7, rfl, hA7, hF7⟩
            have HE := Lib.hid (equal_c w7 b6 c6 (shown l g (r.date + 2880)) b7 c7 (shown l g now) (HSL.out _) (HA6.out.non hF7) hA7)
            have HF7 := Lib.hid (HF6.out.trans hF7 (fun _ _ h => h))
            clear hA7 hF7
            by_cases he : shown l g (r.date + 2880) = shown l g now
            · rw [decide_eq_true he] at HE
              have HQ := Lib.hid he
              clear he
              go_wp2_with fail
              refine HE.out.mono ?_
              rintro e w8 ⟨rfl, hF8⟩
              have HF8 := Lib.hid (HF7.out.trans hF8 (fun _ _ h => h))
              clear hF8
              go_wp2_with fail
              go_roundw
              case rel => exact ⟨k + 1, 0, rfl, by go_num, by have := HLT.out; omega, best_skip HRE.out HBE.out (.inr (.inl HQ.out)), HB0.out, HFW.out.trans HF8.out (fun _ _ h => h)⟩
              case measure => have := HLT.out; simp [intOf] <;> omega
            · rw [decide_eq_false he] at HE
              have HQ := Lib.hid he
              clear he
              go_wp2_with fail
              refine HE.out.mono ?_
              rintro e w8 ⟨rfl, hF8⟩
              have HF8 := Lib.hid (HF7.out.trans hF8 (fun _ _ h => h))
              clear hF8
              go_wp2_with fail
              go_roundw
              case rel => exact ⟨k + 1, r.date + 2880, rfl, by go_num, by have := HLT.out; omega, best_take HDD.out HRE.out HBE.out HN.out HQ.out (.inl rfl), (by omega), HFW.out.trans HF8.out (fun _ _ h => h)⟩
              case measure => have := HLT.out; simp [intOf] <;> omega
          · by_cases hlb : r.date + 2880 < b
            · have HLB := Lib.hid hlb
              go_wp2_with fail
              refine (HMA.out wr (r.date + 2880) (HF3.out.trans HFW.out (fun _ _ h => h))).mono ?_
              rintro e w5 ⟨g5, rfl, hh5, -, hF5⟩
              have hF05 := (HF3.out.trans HFW.out (fun _ _ h => h)).trans hF5 (fun _ _ h => h)
              have HP5 := Lib.hid (HPI.out w5 (r.date + 2880) g5 hF05 hh5)
              have HF5 := Lib.hid hF5
              clear hF5 hh5 hF05
              go_wp2_with fail
              refine HP5.out.mono ?_
              rintro e w6 ⟨b6, c6, rfl, hA6, hF6⟩
              have HF6 := Lib.hid (HF5.out.trans hF6 (fun _ _ h => h))
              have HA6 := Lib.hid hA6
              clear hA6 hF6
              have hm6 := (HFW.out.trans HF6.out (fun _ _ h => h)).keep HM4.out (fun h => h)
              have HP6 := Lib.hid (HPI.out w6 now g4 ((HF3.out.trans HFW.out (fun _ _ h => h)).trans HF6.out (fun _ _ h => h)) hm6)
              clear hm6
              go_wp2_with fail
              refine HP6.out.mono ?_
              rintro e w7 ⟨b7, c7, rfl, hA7, hF7⟩
              have HE := Lib.hid (equal_c w7 b6 c6 (shown l g (r.date + 2880)) b7 c7 (shown l g now) (HSL.out _) (HA6.out.non hF7) hA7)
              have HF7 := Lib.hid (HF6.out.trans hF7 (fun _ _ h => h))
              clear hA7 hF7
              by_cases he : shown l g (r.date + 2880) = shown l g now
              · rw [decide_eq_true he] at HE
                have HQ := Lib.hid he
                clear he
                go_wp2_with fail
                refine HE.out.mono ?_
                rintro e w8 ⟨rfl, hF8⟩
                have HF8 := Lib.hid (HF7.out.trans hF8 (fun _ _ h => h))
                clear hF8
                go_wp2_with fail
                go_roundw
                case rel => exact ⟨k + 1, b, rfl, by go_num, by have := HLT.out; omega, best_skip HRE.out HBE.out (.inr (.inl HQ.out)), HB0.out, HFW.out.trans HF8.out (fun _ _ h => h)⟩
                case measure => have := HLT.out; simp [intOf] <;> omega
              · rw [decide_eq_false he] at HE
                have HQ := Lib.hid he
                clear he
                go_wp2_with fail
                refine HE.out.mono ?_
                rintro e w8 ⟨rfl, hF8⟩
                have HF8 := Lib.hid (HF7.out.trans hF8 (fun _ _ h => h))
                clear hF8
                go_wp2_with fail
                go_roundw
                case rel => exact ⟨k + 1, r.date + 2880, rfl, by go_num, by have := HLT.out; omega, best_take HDD.out HRE.out HBE.out HN.out HQ.out (.inr HLB.out), (by omega), HFW.out.trans HF8.out (fun _ _ h => h)⟩
                case measure => have := HLT.out; simp [intOf] <;> omega
            · have hlb2 : b ≤ r.date + 2880 := by omega
              have HX := Lib.hid (And.intro hbz hlb2)
              go_wp2_with fail
              go_roundw
              case rel => exact ⟨k + 1, b, rfl, by go_num, by have := HLT.out; omega, best_skip HRE.out HBE.out (.inr (.inr HX.out)), HB0.out, HFW.out⟩
              case measure => have := HLT.out; simp [intOf] <;> omega
        · have hn2 : r.date + 2880 ≤ now := by omega
          have HN := Lib.hid hn
          go_wp2_with fail
          go_roundw
          case rel => exact ⟨k + 1, b, rfl, by go_num, by have := HLT.out; omega, best_skip HRE.out HBE.out (.inl HN.out), HB0.out, HFW.out⟩
          case measure => have := HLT.out; simp [intOf] <;> omega
      · obtain rfl : k = l.length := by omega
        have hz := best_next HDD.out HBE.out
        rw [HNX.out] at hz
        have hb : b = 0 := by simpa using hz.2.symm
        subst hb
        clear hz
        go_wp2_with fail
        go_ret
        exact ⟨rfl, HF3.out.trans HFW.out (fun _ _ h => h)⟩
  | some t =>
    rw [hnx] at HK3
    have HNX := Lib.hid hnx
    have ht : now < t := by obtain ⟨r, _, h1, h2⟩ := mem_untils.1 (nextL_some hnx).1; omega
    clear hnx
    go_wp2_with fail
    refine HK3.out.mono ?_
    rintro e w3 ⟨rfl, hF3⟩
    have HF3 := Lib.hid (HF02.out.trans hF3 (fun _ _ h => h))
    clear hF3
    go_wp2_with fail
    refine (HMA.out w3 now HF3.out).mono ?_
    rintro e w4 ⟨g4, rfl, hh4, -, hF4⟩
    have HM4 := Lib.hid hh4
    have HF34 := Lib.hid (HF3.out.trans hF4 (fun _ _ h => h))
    clear hh4 hF4 HF3
    have HF3 := HF34
    go_wp2_with fail
    go_loopw [11, 12] (fun u i wr => ∃ (k : Nat) (b : Int), u = .int .i64 b ∧ i = .int .i64 k ∧ k ≤ l.length ∧ Best l g now k b ∧ 0 ≤ b ∧ Fr Non w4 wr) (fun _ i _ => l.length - (intOf i).toNat)
    case atStart => exact ⟨0, 0, rfl, rfl, Nat.zero_le _, .inl ⟨rfl, fun t ht => by simp [untils] at ht⟩, Int.le_refl _, Fr.refl _ _⟩
    case round =>
      obtain ⟨k, b, rfl, rfl, hk, hbe, hb0, hF⟩ := hrel
      have HBE := Lib.hid hbe
      have HB0 := Lib.hid hb0
      have HFW := Lib.hid hF
      clear hbe hF
      by_cases hlt : k < l.length
      · obtain ⟨r, hr⟩ : ∃ r, l[k]? = some r := ⟨_, List.getElem?_eq_getElem hlt⟩
        have hk9 : (k : Int) ≤ 30 := by have := HF.out.2.1; omega
        obtain ⟨b1, o1, rfl, hrr⟩ := (H.out.non (HF3.out.trans HFW.out (fun _ _ h => h))).get hr
        have hc48 : wr.cell? ⟨b1, o1 + k * 83 + 48, none⟩ = some (.int .i64 r.date) := hrr 48 _ (rowC_date r)
        have hrl := HG.out.2.1 r (List.mem_of_getElem? hr)
        have hd0 := hrl.1
        have hd1 := hrl.2.1
        have HRE := Lib.hid hr
        have HLT := Lib.hid hlt
        clear hrr hr hrl
        by_cases hn : now < r.date + 2880
        · have HN := Lib.hid hn
          by_cases hbz : b = 0
          · subst hbz
            go_wp2_with fail
            refine (HMA.out wr (r.date + 2880) (HF3.out.trans HFW.out (fun _ _ h => h))).mono ?_
            rintro e w5 ⟨g5, rfl, hh5, -, hF5⟩
            have hF05 := (HF3.out.trans HFW.out (fun _ _ h => h)).trans hF5 (fun _ _ h => h)
            have HP5 := Lib.hid (HPI.out w5 (r.date + 2880) g5 hF05 hh5)
            have HF5 := Lib.hid hF5
            clear hF5 hh5 hF05
            go_wp2_with fail
            refine HP5.out.mono ?_
            rintro e w6 ⟨b6, c6, rfl, hA6, hF6⟩
            have HF6 := Lib.hid (HF5.out.trans hF6 (fun _ _ h => h))
            have HA6 := Lib.hid hA6
            clear hA6 hF6
            have hm6 := (HFW.out.trans HF6.out (fun _ _ h => h)).keep HM4.out (fun h => h)
            have HP6 := Lib.hid (HPI.out w6 now g4 ((HF3.out.trans HFW.out (fun _ _ h => h)).trans HF6.out (fun _ _ h => h)) hm6)
            clear hm6
            go_wp2_with fail
            refine HP6.out.mono ?_
            rintro e w7 ⟨b7, c7, rfl, hA7, hF7⟩
            have HE := Lib.hid (equal_c w7 b6 c6 (shown l g (r.date + 2880)) b7 c7 (shown l g now) (HSL.out _) (HA6.out.non hF7) hA7)
            have HF7 := Lib.hid (HF6.out.trans hF7 (fun _ _ h => h))
            clear hA7 hF7
            by_cases he : shown l g (r.date + 2880) = shown l g now
            · rw [decide_eq_true he] at HE
              have HQ := Lib.hid he
              clear he
              go_wp2_with fail
              refine HE.out.mono ?_
              rintro e w8 ⟨rfl, hF8⟩
              have HF8 := Lib.hid (HF7.out.trans hF8 (fun _ _ h => h))
              clear hF8
              go_wp2_with fail
              go_roundw
              case rel => exact ⟨k + 1, 0, rfl, by go_num, by have := HLT.out; omega, best_skip HRE.out HBE.out (.inr (.inl HQ.out)), HB0.out, HFW.out.trans HF8.out (fun _ _ h => h)⟩
              case measure => have := HLT.out; simp [intOf] <;> omega
            · rw [decide_eq_false he] at HE
              have HQ := Lib.hid he
              clear he
              go_wp2_with fail
              refine HE.out.mono ?_
              rintro e w8 ⟨rfl, hF8⟩
              have HF8 := Lib.hid (HF7.out.trans hF8 (fun _ _ h => h))
              clear hF8
              go_wp2_with fail
              go_roundw
              case rel => exact ⟨k + 1, r.date + 2880, rfl, by go_num, by have := HLT.out; omega, best_take HDD.out HRE.out HBE.out HN.out HQ.out (.inl rfl), (by omega), HFW.out.trans HF8.out (fun _ _ h => h)⟩
              case measure => have := HLT.out; simp [intOf] <;> omega
          · by_cases hlb : r.date + 2880 < b
            · have HLB := Lib.hid hlb
              go_wp2_with fail
              refine (HMA.out wr (r.date + 2880) (HF3.out.trans HFW.out (fun _ _ h => h))).mono ?_
              rintro e w5 ⟨g5, rfl, hh5, -, hF5⟩
              have hF05 := (HF3.out.trans HFW.out (fun _ _ h => h)).trans hF5 (fun _ _ h => h)
              have HP5 := Lib.hid (HPI.out w5 (r.date + 2880) g5 hF05 hh5)
              have HF5 := Lib.hid hF5
              clear hF5 hh5 hF05
              go_wp2_with fail
              refine HP5.out.mono ?_
              rintro e w6 ⟨b6, c6, rfl, hA6, hF6⟩
              have HF6 := Lib.hid (HF5.out.trans hF6 (fun _ _ h => h))
              have HA6 := Lib.hid hA6
              clear hA6 hF6
              have hm6 := (HFW.out.trans HF6.out (fun _ _ h => h)).keep HM4.out (fun h => h)
              have HP6 := Lib.hid (HPI.out w6 now g4 ((HF3.out.trans HFW.out (fun _ _ h => h)).trans HF6.out (fun _ _ h => h)) hm6)
              clear hm6
              go_wp2_with fail
              refine HP6.out.mono ?_
              rintro e w7 ⟨b7, c7, rfl, hA7, hF7⟩
              have HE := Lib.hid (equal_c w7 b6 c6 (shown l g (r.date + 2880)) b7 c7 (shown l g now) (HSL.out _) (HA6.out.non hF7) hA7)
              have HF7 := Lib.hid (HF6.out.trans hF7 (fun _ _ h => h))
              clear hA7 hF7
              by_cases he : shown l g (r.date + 2880) = shown l g now
              · rw [decide_eq_true he] at HE
                have HQ := Lib.hid he
                clear he
                go_wp2_with fail
                refine HE.out.mono ?_
                rintro e w8 ⟨rfl, hF8⟩
                have HF8 := Lib.hid (HF7.out.trans hF8 (fun _ _ h => h))
                clear hF8
                go_wp2_with fail
                go_roundw
                case rel => exact ⟨k + 1, b, rfl, by go_num, by have := HLT.out; omega, best_skip HRE.out HBE.out (.inr (.inl HQ.out)), HB0.out, HFW.out.trans HF8.out (fun _ _ h => h)⟩
                case measure => have := HLT.out; simp [intOf] <;> omega
              · rw [decide_eq_false he] at HE
                have HQ := Lib.hid he
                clear he
                go_wp2_with fail
                refine HE.out.mono ?_
                rintro e w8 ⟨rfl, hF8⟩
                have HF8 := Lib.hid (HF7.out.trans hF8 (fun _ _ h => h))
                clear hF8
                go_wp2_with fail
                go_roundw
                case rel => exact ⟨k + 1, r.date + 2880, rfl, by go_num, by have := HLT.out; omega, best_take HDD.out HRE.out HBE.out HN.out HQ.out (.inr HLB.out), (by omega), HFW.out.trans HF8.out (fun _ _ h => h)⟩
                case measure => have := HLT.out; simp [intOf] <;> omega
            · have hlb2 : b ≤ r.date + 2880 := by omega
              have HX := Lib.hid (And.intro hbz hlb2)
              go_wp2_with fail
              go_roundw
              case rel => exact ⟨k + 1, b, rfl, by go_num, by have := HLT.out; omega, best_skip HRE.out HBE.out (.inr (.inr HX.out)), HB0.out, HFW.out⟩
              case measure => have := HLT.out; simp [intOf] <;> omega
        · have hn2 : r.date + 2880 ≤ now := by omega
          have HN := Lib.hid hn
          go_wp2_with fail
          go_roundw
          case rel => exact ⟨k + 1, b, rfl, by go_num, by have := HLT.out; omega, best_skip HRE.out HBE.out (.inl HN.out), HB0.out, HFW.out⟩
          case measure => have := HLT.out; simp [intOf] <;> omega
      · obtain rfl : k = l.length := by omega
        have hz := best_next HDD.out HBE.out
        rw [HNX.out] at hz
        have hb : t = b := by simpa using hz.2
        subst hb
        have ht0 : t ≠ 0 := by have := hz.1; simpa using this
        have ht1 : (t == 0) = false := by simpa using ht0
        clear hz
        go_wp2_with fail
        go_ret
        exact ⟨by first | rfl | simp [ht0], HF3.out.trans HFW.out (fun _ _ h => h)⟩

theorem next_walk (w : World) (a : Option Addr) (cap : Nat) (l : List Row) (ga : Option Addr) (gc : Nat) (g : List Id) (now : Int) (hl : l.length ≤ 9223372036854775807) (hcap : l.length ≤ cap) (h : AtL w a 83 rowC l) (hr : RefsAt w l) (h2 : AtL w ga 32 idC g) :
    Calls Try.prog 15 #[.slice a l.length cap, .slice ga g.length gc, .int .i64 now] w fun e w' => e = .returned (.bool true) ∧ Fr Non w w' := by
  by_cases hf : Few l g
  · by_cases hg : Good l
    · exact next_good w a cap l ga gc g now hl hcap h hr h2 hf hg
    · exact next_bad w a cap l ga gc g now hl hcap h hf hg
  · exact next_few w a cap l ga gc g now hl h hf
end Go.Proofs.Ytfemaeacmnhdlaa
