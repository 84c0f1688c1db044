/-
  VisibilityClosed.
-/
import Derived.Test.YtfemaeacmnhdlaaVD
namespace Go.Proofs.Ytfemaeacmnhdlaa
open Go.RowKit

theorem sh_rows {rows : Id → Option Row} {lost : Id → Bool} {now : Int} {x : Id} (h : Sh rows lost now x) : ∃ r, rows x = some r := by
  cases h with
  | root h _ => exact ⟨_, h⟩
  | hole h _ _ _ => exact ⟨_, h⟩
  | ans h _ _ _ => exact ⟨_, h⟩
noncomputable def shown (l : List Row) (g : List Id) (now : Int) : List Id := srt ((l.filter (shL l g now)).map (·.id))
theorem mem_shown {l : List Row} {g : List Id} {now : Int} {x : Id} : x ∈ shown l g now ↔ Sh (rowsOf l) (fun x => decide (x ∈ g)) now x := by
  unfold shown
  rw [mem_srt, List.mem_map]
  constructor
  · rintro ⟨r, hr, rfl⟩
    exact shL_t.1 (List.mem_filter.1 hr).2
  · intro h
    obtain ⟨r, hr⟩ := sh_rows h
    obtain ⟨hm, rfl⟩ := rowsOf_mem hr
    exact ⟨r, List.mem_filter.2 ⟨hm, shL_t.2 h⟩, rfl⟩
theorem shown_length (l : List Row) (g : List Id) (now : Int) : (shown l g now).length = (l.filter (shL l g now)).length := by unfold shown; rw [srt_length, List.length_map]
theorem shown_le (l : List Row) (g : List Id) (now : Int) : (shown l g now).length ≤ l.length := by rw [shown_length]; exact List.length_filter_le _ _

/-- Shown, said in the list of what is shown. -/
theorem Shown_l (w : World) (a : Option Addr) (cap : Nat) (l : List Row) (ga : Option Addr) (gc : Nat) (g : List Id) (now : Int) (hg : Good l) (hgl : g.length ≤ 1000000) (h : AtL w a 83 rowC l) (hr : RefsAt w l) (h2 : AtL w ga 32 idC g) :
    Calls Try.prog 22 #[.slice a l.length cap, .slice ga g.length gc, .int .i64 now] w fun e w' => ∃ b c, e = .returned (.tuple #[.slice b (shown l g now).length c, .int .i64 0]) ∧ AtL w' b 32 idC (shown l g now) ∧ Fr Non w w' :=
  (Shown_c w a cap l ga gc g now hg hgl h hr h2).mono fun e w' ⟨b, c, he, ho, hf⟩ => ⟨b, c, by rw [shown_length]; exact he, AtL.own elem31 ho, hf⟩

theorem closed_law {l : List Row} {g : List Id} {now : Int} (hg : Good l) {r : Row} (hr : r ∈ l) (hx : r.id ∈ shown l g now) {y : Id} (hy : r.refs.getLast? = some y) (hin : (rowIx l y).isSome = true) : y ∈ shown l g now := by
  rw [mem_shown] at hx ⊢
  have hrow := rowsOf_self hg.2.2 hr
  cases hx with
  | root h1 h2 => rw [hrow] at h1; cases h1; rw [hy] at h2; cases h2
  | hole h1 h2 h3 _ =>
    rw [hrow] at h1; cases h1
    rw [hy] at h2; cases h2
    rw [rowIx_none.2 (rowsOf_none.1 h3)] at hin
    cases hin
  | ans h1 h2 _ h4 =>
    rw [hrow] at h1; cases h1
    rw [hy] at h2; cases h2
    exact h4

theorem few_t (w : World) (a : Option Addr) (cap : Nat) (l : List Row) (a2 : Option Addr) (cap2 : Nat) (g : List Id) (hl : l.length ≤ 9223372036854775807) (h : AtL w a 83 rowC l) (hf : Few l g) :
    Calls Try.prog 20 #[.slice a l.length cap, .slice a2 g.length cap2] w fun e w' => e = .returned (.bool true) ∧ w = w' :=
  (few_c w a cap l a2 cap2 g hl h).mono fun _ _ ⟨h1, h2⟩ => ⟨h1.elim (·.1) (fun h => absurd hf h.2), h2⟩
theorem few_f (w : World) (a : Option Addr) (cap : Nat) (l : List Row) (a2 : Option Addr) (cap2 : Nat) (g : List Id) (hl : l.length ≤ 9223372036854775807) (h : AtL w a 83 rowC l) (hf : ¬ Few l g) :
    Calls Try.prog 20 #[.slice a l.length cap, .slice a2 g.length cap2] w fun e w' => e = .returned (.bool false) ∧ w = w' :=
  (few_c w a cap l a2 cap2 g hl h).mono fun _ _ ⟨h1, h2⟩ => ⟨h1.elim (fun h => absurd h.2 hf) (·.1), h2⟩
theorem check_t (w : World) (a : Option Addr) (cap : Nat) (l : List Row) (hl : l.length ≤ 30) (hcap : l.length ≤ cap) (h : AtL w a 83 rowC l) (hg : Good l) :
    Calls Try.prog 21 #[.slice a l.length cap] w fun e w' => e = .returned (.int .i64 0) ∧ Fr Non w w' :=
  (check_c w a cap l (by omega) hcap h).mono fun _ _ ⟨h1, h2⟩ => ⟨h1.elim (·.1) (fun ⟨_, _, _, hn⟩ => absurd hg hn), h2⟩
theorem check_f (w : World) (a : Option Addr) (cap : Nat) (l : List Row) (hl : l.length ≤ 30) (hcap : l.length ≤ cap) (h : AtL w a 83 rowC l) (hg : ¬ Good l) :
    Calls Try.prog 21 #[.slice a l.length cap] w fun e w' => ∃ c : Int, e = .returned (.int .i64 c) ∧ (c == 0) = false ∧ Fr Non w w' :=
  (check_c w a cap l (by omega) hcap h).mono fun _ _ ⟨h1, h2⟩ => by
    rcases h1 with ⟨_, h⟩ | ⟨c, hc, h0, _⟩
    · exact absurd h hg
    · exact ⟨c, hc, h0, h2⟩

set_option maxRecDepth 100000 in
theorem closed_few (w : World) (a : Option Addr) (cap : Nat) (l : List Row) (ga : Option Addr) (gc : Nat) (g : List Id) (now : Int) (hl : l.length ≤ 9223372036854775807) (h : AtL w a 83 rowC l) (hf : ¬ Few l g) :
    Calls Try.prog 3 #[.slice a l.length cap, .slice ga g.length gc, .int .i64 now] w fun e w' => e = .returned (.bool true) ∧ Fr Non w w' := by
  have HF := Lib.hid hf
  have H := Lib.hid h
  have HL := Lib.hid hl
  clear hf h hl
  go_enter Try.func3, Try.ntmps3
  go_wp2_with fail
  refine (known_c w).mono ?_
  rintro e w1 ⟨rfl, hF1⟩
  have HK := Lib.hid (few_f w1 a cap l ga gc g HL.out (H.out.non hF1) HF.out)
  have HF1 := Lib.hid hF1
  clear hF1
  go_wp2_with fail
  refine HK.out.mono ?_
  rintro e w1' ⟨rfl, rfl⟩
  go_wp2_with fail
  refine (known_c w1).mono ?_
  rintro e w2 ⟨rfl, hF2⟩
  have HF2 := Lib.hid hF2
  clear hF2
  go_wp2_with fail
  go_ret
  exact ⟨rfl, HF1.out.trans HF2.out (fun _ _ h => h)⟩

set_option maxRecDepth 100000 in
theorem closed_bad (w : World) (a : Option Addr) (cap : Nat) (l : List Row) (ga : Option Addr) (gc : Nat) (g : List Id) (now : Int) (hl : l.length ≤ 9223372036854775807) (hcap : l.length ≤ cap) (h : AtL w a 83 rowC l) (hf : Few l g) (hg : ¬ Good l) :
    Calls Try.prog 3 #[.slice a l.length cap, .slice ga g.length gc, .int .i64 now] w fun e w' => e = .returned (.bool true) ∧ Fr Non w w' := by
  have HF := Lib.hid hf
  have H := Lib.hid h
  have HL := Lib.hid hl
  have HC := Lib.hid hcap
  have HG := Lib.hid hg
  clear hf h hl hcap hg
  go_enter Try.func3, Try.ntmps3
  go_wp2_with fail
  refine (known_c w).mono ?_
  rintro e w1 ⟨rfl, hF1⟩
  have HK := Lib.hid (few_t w1 a cap l ga gc g HL.out (H.out.non hF1) HF.out)
  have HK2 := Lib.hid (check_f w1 a cap l HF.out.2.1 HC.out (H.out.non hF1) HG.out)
  have HF1 := Lib.hid hF1
  clear hF1
  go_wp2_with fail
  refine HK.out.mono ?_
  rintro e w1' ⟨rfl, rfl⟩
  go_wp2_with fail
  refine HK2.out.mono ?_
  rintro e w2 ⟨c, rfl, hc, hF2⟩
  have HF2 := Lib.hid hF2
  clear hF2
  go_wp2_with fail
  refine (known_c w2).mono ?_
  rintro e w3 ⟨rfl, hF3⟩
  have HF3 := Lib.hid hF3
  clear hF3
  go_wp2_with fail
  go_ret
  exact ⟨rfl, (HF1.out.trans HF2.out (fun _ _ h => h)).trans HF3.out (fun _ _ h => h)⟩

set_option maxRecDepth 100000 in
theorem closed_good (w : World) (a : Option Addr) (cap : Nat) (l : List Row) (ga : Option Addr) (gc : Nat) (g : List Id) (now : Int) (hl : l.length ≤ 9223372036854775807) (hcap : l.length ≤ cap) (h : AtL w a 83 rowC l) (hr : RefsAt w l) (h2 : AtL w ga 32 idC g) (hf : Few l g) (hg : Good l) :
    Calls Try.prog 3 #[.slice a l.length cap, .slice ga g.length gc, .int .i64 now] w fun e w' => e = .returned (.bool true) ∧ Fr Non w w' := by
  have HF := Lib.hid hf
  have H := Lib.hid h
  have HL := Lib.hid hl
  have HC := Lib.hid hcap
  have HG := Lib.hid hg
  have HR := Lib.hid hr
  have H2 := Lib.hid h2
  clear hf h hl hcap hg hr h2
  go_enter Try.func3, Try.ntmps3
  go_wp2_with fail
  refine (known_c w).mono ?_
  rintro e w1 ⟨rfl, hF1⟩
  have HK := Lib.hid (few_t w1 a cap l ga gc g HL.out (H.out.non hF1) HF.out)
  have HK2 := Lib.hid (check_t w1 a cap l HF.out.2.1 HC.out (H.out.non hF1) HG.out)
  have HF1 := Lib.hid hF1
  clear hF1
  go_wp2_with fail
  refine HK.out.mono ?_
  rintro e w1' ⟨rfl, rfl⟩
  go_wp2_with fail
  refine HK2.out.mono ?_
  rintro e w2 ⟨rfl, hF2⟩
  have hF02 := HF1.out.trans hF2 (fun _ _ h => h)
  have HK3 := Lib.hid (Shown_l w2 a cap l ga gc g now HG.out (by have := HF.out.2.2; omega) (H.out.non hF02) (HR.out.non hF02) (H2.out.non hF02))
  have HF02 := Lib.hid hF02
  clear hF2 hF02
  obtain ⟨s, hs⟩ : ∃ s, s = shown l g now := ⟨_, rfl⟩
  have HS := Lib.hid hs
  have HLAW := Lib.hid (fun (r : Row) (hr : r ∈ l) (hx : r.id ∈ s) (y : Id) (hy : r.refs.getLast? = some y) (hin : (rowIx l y).isSome = true) => (show y ∈ s from hs ▸ closed_law HG.out hr (hs ▸ hx) hy hin))
  have HSL := Lib.hid (show s.length ≤ 1000000 from by have := shown_le l g now; rw [← hs] at this; have := HF.out.2.1; omega)
  rw [← hs] at HK3
  clear hs
  go_wp2_with fail
  refine HK3.out.mono ?_
  rintro e w3 ⟨b, c, rfl, hA3, hF3⟩
  have HA3 := Lib.hid hA3
  have HF3 := Lib.hid (HF02.out.trans hF3 (fun _ _ h => h))
  clear hA3 hF3
  go_wp2_with fail
  go_loopw [6, 9] (fun u i wr => u = .bool false ∧ ∃ k : Nat, i = .int .i64 k ∧ k ≤ l.length ∧ Fr Non w3 wr) (fun _ i _ => l.length - (intOf i).toNat)
  case atStart => exact ⟨rfl, 0, rfl, Nat.zero_le _, Fr.refl _ _⟩
  case round =>
    obtain ⟨rfl, k, rfl, hk, hF⟩ := hrel
    have HFW := Lib.hid hF
    clear hF
    by_cases hlt : k < l.length
    · obtain ⟨r, hr⟩ : ∃ r, l[k]? = some r := ⟨_, List.getElem?_eq_getElem hlt⟩
      have hk9 : (k : Int) ≤ 30 := by have := HF.out.2.1; omega
      obtain ⟨b1, o1, rfl, hrr⟩ := (H.out.non (HF3.out.trans HFW.out (fun _ _ h => h))).get hr
      have hc : wr.cell? ⟨b1, o1 + k * 83 + 50, none⟩ = some (.slice r.ra r.refs.length r.rc) := hrr 50 _ (rowC_refs r)
      have HID := Lib.hid (show wr.rangeAt b1 (o1 + k * 83) (idC r.id) from idC_of_row hrr)
      have hrl := HG.out.2.1 r (List.mem_of_getElem? hr)
      have hn20 : (r.refs.length : Int) ≤ 20 := by have := hrl.2.2; omega
      have HRR := Lib.hid hrr
      have HRE := Lib.hid hr
      have HLT := Lib.hid hlt
      have HMEM := Lib.hid (List.mem_of_getElem? hr)
      clear hrr hr hrl
      rcases Nat.eq_zero_or_pos r.refs.length with h0 | h0
      · have h0' : (r.refs.length : Int) = 0 := by omega
        go_wp2_with fail
        go_roundw
        case rel => exact ⟨rfl, k + 1, by go_num, by have := HLT.out; omega, HFW.out⟩
        case measure => have := HLT.out; simp [intOf] <;> omega
      · obtain ⟨m, hm⟩ : ∃ m, r.refs.length = m + 1 := ⟨r.refs.length - 1, by omega⟩
        have hm19 : (m : Int) ≤ 19 := by omega
        obtain ⟨y, hy⟩ : ∃ y, r.refs[m]? = some y := ⟨_, List.getElem?_eq_getElem (by omega)⟩
        have hlast : r.refs.getLast? = some y := by rw [List.getLast?_eq_getElem?, hm]; exact hy
        obtain ⟨rb, ro, hra, hrg⟩ := (HR.out.non (HF3.out.trans HFW.out (fun _ _ h => h)) r HMEM.out).get hy
        rw [hra, hm] at hc
        have HRG := Lib.hid hrg
        have HLAST := Lib.hid hlast
        clear hrg hlast hy h0 hm hra hn20
        by_cases hin : r.id ∈ s
        · have HX := Lib.hid (has_c wr b c s r.id HSL.out (HA3.out.non HFW.out))
          rw [decide_eq_true hin] at HX
          have HIN := Lib.hid hin
          clear hin
          go_wp2_with (first
            | (guard_target =~ wpList _ _ _ (⟨some 54, Op.load 31 _, _, _, _, _⟩ :: _) _ _; refine wlg rfl (r_load (b := b1) (i := o1 + k * 83) rfl rfl HID.out Try.underlying31 rfl (by rw [sz31, idC_length])) ?_; simp only [Act.put, List.setIfInBounds_toArray, List.set_cons_zero, List.set_cons_succ])
            | fail)
          refine HX.out.mono ?_
          rintro e wr1 ⟨rfl, hf1⟩
          have hc1 := hf1.cell hc (fun h => h)
          have HRG1 := Lib.hid (rng_fr hf1 HRG.out)
          have HY := Lib.hid (row_c wr1 (some ⟨b1, o1, none⟩) cap l y (by have := HF.out.2.1; omega) ((H.out.non (HF3.out.trans HFW.out (fun _ _ h => h))).non hf1))
          have HF1W := Lib.hid hf1
          clear hf1 hc
          by_cases hsome : (rowIx l y).isSome = true
          · have hix := (ixI_nonneg (rowIx l y)).2 hsome
            have HYS := Lib.hid (HLAW.out r HMEM.out HIN.out y HLAST.out hsome)
            clear hsome
            generalize ixI (rowIx l y) = ix at *
            go_wp2_with (first
              | (guard_target =~ wpList _ _ _ (⟨some 67, Op.load 31 _, _, _, _, _⟩ :: _) _ _; refine wlg rfl (r_load (b := rb) (i := ro + m * 32) rfl rfl HRG1.out Try.underlying31 rfl (by rw [sz31, idC_length])) ?_; simp only [Act.put, List.setIfInBounds_toArray, List.set_cons_zero, List.set_cons_succ])
              | fail)
            refine HY.out.mono ?_
            rintro e wr2 ⟨rfl, hf2⟩
            have hc2 := hf2.cell hc1 (fun h => h)
            have HRG2 := Lib.hid (rng_fr hf2 HRG1.out)
            have HZ := Lib.hid (has_c wr2 b c s y HSL.out (((HA3.out.non HFW.out).non HF1W.out).non hf2))
            rw [decide_eq_true HYS.out] at HZ
            have HF2W := Lib.hid hf2
            clear hf2 hc1
            go_wp2_with (first
              | (guard_target =~ wpList _ _ _ (⟨some 81, Op.load 31 _, _, _, _, _⟩ :: _) _ _; refine wlg rfl (r_load (b := rb) (i := ro + m * 32) rfl rfl HRG2.out Try.underlying31 rfl (by rw [sz31, idC_length])) ?_; simp only [Act.put, List.setIfInBounds_toArray, List.set_cons_zero, List.set_cons_succ])
              | fail)
            refine HZ.out.mono ?_
            rintro e wr3 ⟨rfl, hf3⟩
            have HF3W := Lib.hid hf3
            clear hf3
            go_wp2_with fail
            go_roundw
            case rel => exact ⟨rfl, k + 1, by go_num, by have := HLT.out; omega, HFW.out.trans (HF1W.out.trans (HF2W.out.trans HF3W.out (fun _ _ h => h)) (fun _ _ h => h)) (fun _ _ h => h)⟩
            case measure => have := HLT.out; simp [intOf] <;> omega
          · have hix : ¬ 0 ≤ ixI (rowIx l y) := fun h => hsome ((ixI_nonneg (rowIx l y)).1 h)
            clear hsome
            generalize ixI (rowIx l y) = ix at *
            go_wp2_with (first
              | (guard_target =~ wpList _ _ _ (⟨some 67, Op.load 31 _, _, _, _, _⟩ :: _) _ _; refine wlg rfl (r_load (b := rb) (i := ro + m * 32) rfl rfl HRG1.out Try.underlying31 rfl (by rw [sz31, idC_length])) ?_; simp only [Act.put, List.setIfInBounds_toArray, List.set_cons_zero, List.set_cons_succ])
              | fail)
            refine HY.out.mono ?_
            rintro e wr2 ⟨rfl, hf2⟩
            have HF2W := Lib.hid hf2
            clear hf2
            go_wp2_with fail
            go_roundw
            case rel => exact ⟨rfl, k + 1, by go_num, by have := HLT.out; omega, HFW.out.trans (HF1W.out.trans HF2W.out (fun _ _ h => h)) (fun _ _ h => h)⟩
            case measure => have := HLT.out; simp [intOf] <;> omega
        · have HX := Lib.hid (has_c wr b c s r.id HSL.out (HA3.out.non HFW.out))
          rw [decide_eq_false hin] at HX
          clear hin
          go_wp2_with (first
            | (guard_target =~ wpList _ _ _ (⟨some 54, Op.load 31 _, _, _, _, _⟩ :: _) _ _; refine wlg rfl (r_load (b := b1) (i := o1 + k * 83) rfl rfl HID.out Try.underlying31 rfl (by rw [sz31, idC_length])) ?_; simp only [Act.put, List.setIfInBounds_toArray, List.set_cons_zero, List.set_cons_succ])
            | fail)
          refine HX.out.mono ?_
          rintro e wr1 ⟨rfl, hf1⟩
          have HF1W := Lib.hid hf1
          clear hf1
          go_wp2_with fail
          go_roundw
          case rel => exact ⟨rfl, k + 1, by go_num, by have := HLT.out; omega, HFW.out.trans HF1W.out (fun _ _ h => h)⟩
          case measure => have := HLT.out; simp [intOf] <;> omega
    · obtain rfl : k = l.length := by omega
      go_wp2_with fail
      go_ret
      exact ⟨rfl, HF3.out.trans HFW.out (fun _ _ h => h)⟩
end Go.Proofs.Ytfemaeacmnhdlaa
