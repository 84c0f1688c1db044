/-
  VisibilityMonotone.
-/
import Derived.Test.YtfemaeacmnhdlaaVF
namespace Go.Proofs.Ytfemaeacmnhdlaa
open Go.RowKit

theorem Sh.mono {rows : Id → Option Row} {lost lost' : Id → Bool} {now now' : Int} {x : Id} (h : Sh rows lost now x) (hl : ∀ x, lost x = true → lost' x = true) (hn : now ≤ now') : Sh rows lost' now' x := by
  induction h with
  | root h1 h2 => exact .root h1 h2
  | hole h1 h2 h3 h4 => exact .hole h1 h2 h3 (h4.imp (hl _) (fun h => by omega))
  | ans h1 h2 h3 _ ih => exact .ans h1 h2 h3 ih
theorem shown_mono {l : List Row} {g h : List Id} {now later : Int} (hn : now ≤ later) {x : Id} (hx : x ∈ shown l g now) : x ∈ shown l (g ++ h) later := by
  rw [mem_shown] at hx ⊢
  exact hx.mono (fun y hy => by simp only [decide_eq_true_eq] at hy ⊢; exact List.mem_append_left _ hy) hn

theorem buildSlice23_0 (w : World) : (Instr.buildSlice 23 0 #[]).run Try.prog w = .ok (.slice (some ⟨w.heap.size, 0, none⟩) 0 0) (w.alloc (.cells #[] 31)) :=
  run_buildSlice_all (P := Try.prog) (w := w) (t := 23) (e := 31) (s := 32) (vs := []) Try.underlying23 sz31 (zero31 w) (by intro v hv; cases hv) (by simp)
theorem own31_empty (w : World) : Own (w.alloc (.cells #[] 31)) 31 32 idC (.slice (some ⟨w.heap.size, 0, none⟩) 0 0) [] :=
  ⟨rfl, .inr ⟨w.heap.size, 0, #[], rfl, Nat.zero_le _, heap_alloc_new w _, Nat.le_refl _, Nat.zero_le _, rfl, rfl⟩⟩
theorem append_zero {P : Program} {w : World} {t ty e : TypeId} {i : TypeInfo} (ht : P.underlying t = some (.slice e)) (hi : P.info? e = some i) (g n cap : Nat) (hn : n ≤ cap) (ad : Option Addr) (c : Nat) : (Builtin.append_ #[t, t] ty #[.slice (some ⟨g, 0, none⟩) n cap, .slice ad 0 c]).run P w = .ok (.slice (some ⟨g, 0, none⟩) n cap) w := by
  cases ad <;> simp [Builtin.append_, run_underlying ht, sizeOf, typeInfo, hi, Builtin.lenOf, Builtin.firstCells, storeCells, loadCells, loadCellsFrom, hn]

theorem AtL.range {α : Type} {w : World} {b o k : Nat} {enc : α → List Value} (hk : ∀ x, (enc x).length = k) {l : List α} (h : ∀ (i : Nat) (x : α), l[i]? = some x → w.rangeAt b (o + i * k) (enc x)) : w.rangeAt b o (l.flatMap enc) := by
  intro j v hv
  have hj := (List.getElem?_eq_some_iff.1 hv).1
  rw [flat_len hk] at hj
  have k0 : 0 < k := by rcases Nat.eq_zero_or_pos k with h | h; · subst h; simp at hj
                        · exact h
  have hi : j / k < l.length := Nat.div_lt_of_lt_mul (by rwa [Nat.mul_comm] at hj)
  have hc : j % k < (enc l[j / k]).length := by rw [hk]; exact Nat.mod_lt _ k0
  have e2 := flat_get hk l (j / k) l[j / k] (List.getElem?_eq_getElem hi) (j % k) _ (List.getElem?_eq_getElem hc)
  rw [Nat.div_add_mod' j k, hv] at e2
  have := h (j / k) _ (List.getElem?_eq_getElem hi) (j % k) _ (List.getElem?_eq_getElem hc)
  rw [show o + j / k * k + j % k = o + j by have := Nat.div_add_mod' j k; omega] at this
  rw [this, ← Option.some.inj e2]

/-- More identities are put behind a list of the call's own. -/
theorem app_ids {w0 w : World} {g n cap : Nat} {l ys : List Id} (m : Nat) (a2 : Option Addr) (c2 : Nat) (hF : Fr Non w0 w) (h : Own w 31 32 idC (.slice (some ⟨g, 0, none⟩) n cap) l) (hgb : w0.heap.size ≤ g) (hy : AtL w a2 32 idC ys) (hn : l.length = n) (hm : m = n + ys.length) (hl : l.length ≤ 4096) (hyl : ys.length ≤ 4096) :
    ∃ b cap' w', (Builtin.append_ #[23, 23] 23 #[.slice (some ⟨g, 0, none⟩) n cap, .slice a2 ys.length c2]).run Try.prog w = .ok (.slice (some ⟨b, 0, none⟩) m cap') w' ∧
      Own w' 31 32 idC (.slice (some ⟨b, 0, none⟩) m cap') (l ++ ys) ∧ w0.heap.size ≤ b ∧ Fr Non w0 w' := by
  subst hn
  cases ys with
  | nil =>
    obtain rfl : m = l.length := by simpa using hm
    obtain ⟨i, hi, _, _, _⟩ := info_parts info31
    obtain ⟨_, _, e, hc, _⟩ := Own.shape h
    obtain ⟨-, -, rfl⟩ := Value.slice.inj e
    exact ⟨g, cap, w, append_zero Try.underlying23 hi g _ cap hc a2 c2, by rw [List.append_nil]; exact h, hgb, hF⟩
  | cons y r =>
    rcases hy with hy | ⟨b2, o2, rfl, hy⟩
    · cases hy
    · obtain ⟨b, cap', w', r1, r2, r3, r4, r5⟩ := run_append_many elem31 (t := 23) (ty := 23) Try.underlying23 h (g := b2) (o := o2) (c := c2) (ys := y :: r) (AtL.range idC_length hy) (by simp) (by unfold maxLen; omega) (by omega)
      subst hm
      refine ⟨b, cap', w', r1, r2, ?_, hF.grown r3 (fun k hk hlt => by have : g = k := Option.some.inj hk; omega)⟩
      rcases r4 with h | h
      · cases h; exact hgb
      · have := hF.size; omega

set_option maxRecDepth 100000 in
theorem mono_few (w : World) (a : Option Addr) (cap : Nat) (l : List Row) (ga : Option Addr) (gc : Nat) (g : List Id) (ha : Option Addr) (hc : Nat) (hh : List Id) (now later : Int) (hl : l.length ≤ 9223372036854775807) (hcap : l.length ≤ cap) (h : AtL w a 83 rowC l) (hr : RefsAt w l) (h2 : AtL w ga 32 idC g) (h3 : AtL w ha 32 idC hh) (hf : ¬ Few l g) :
    Calls Try.prog 4 #[.slice a l.length cap, .slice ga g.length gc, .slice ha hh.length hc, .int .i64 now, .int .i64 later] w fun e w' => e = .returned (.bool true) ∧ Fr Non w w' := by
  have H := Lib.hid h
  have HL := Lib.hid hl
  have HC := Lib.hid hcap
  have HR := Lib.hid hr
  have H2 := Lib.hid h2
  have H3 := Lib.hid h3
  clear h hl hcap hr h2 h3
  have HF := Lib.hid hf
  clear hf
  go_enter Try.func4, Try.ntmps4
  go_wp2_with fail
  refine (known_c w).mono ?_
  rintro e w1 ⟨rfl, hF1⟩
  have HK := Lib.hid (few_f w1 a cap l ga gc g HL.out (H.out.non hF1) HF.out)
  have HF1 := Lib.hid hF1
  clear hF1
  go_wp2_with fail
  refine HK.out.mono ?_
  rintro e w1' ⟨rfl, rfl⟩
  go_wp2_with fail
  refine (known_c w1).mono ?_
  rintro e w9 ⟨rfl, hF9⟩
  have HF9 := Lib.hid hF9
  clear hF9
  go_wp2_with fail
  go_ret
  exact ⟨rfl, HF1.out.trans HF9.out (fun _ _ h => h)⟩

set_option maxRecDepth 100000 in
theorem mono_more (w : World) (a : Option Addr) (cap : Nat) (l : List Row) (ga : Option Addr) (gc : Nat) (g : List Id) (ha : Option Addr) (hc : Nat) (hh : List Id) (now later : Int) (hl : l.length ≤ 9223372036854775807) (hcap : l.length ≤ cap) (h : AtL w a 83 rowC l) (hr : RefsAt w l) (h2 : AtL w ga 32 idC g) (h3 : AtL w ha 32 idC hh) (hf : Few l g) (hm : ¬ hh.length ≤ 30) :
    Calls Try.prog 4 #[.slice a l.length cap, .slice ga g.length gc, .slice ha hh.length hc, .int .i64 now, .int .i64 later] w fun e w' => e = .returned (.bool true) ∧ Fr Non w w' := by
  have H := Lib.hid h
  have HL := Lib.hid hl
  have HC := Lib.hid hcap
  have HR := Lib.hid hr
  have H2 := Lib.hid h2
  have H3 := Lib.hid h3
  clear h hl hcap hr h2 h3
  have HF := Lib.hid hf
  have hm30 : (30 : Int) < (hh.length : Int) := by omega
  clear hf hm
  go_enter Try.func4, Try.ntmps4
  go_wp2_with fail
  refine (known_c w).mono ?_
  rintro e w1 ⟨rfl, hF1⟩
  have HK := Lib.hid (few_t w1 a cap l ga gc g HL.out (H.out.non hF1) HF.out)
  have HF1 := Lib.hid hF1
  clear hF1
  go_wp2_with fail
  refine HK.out.mono ?_
  rintro e w1' ⟨rfl, rfl⟩
  go_wp2_with fail
  refine (known_c w1).mono ?_
  rintro e w9 ⟨rfl, hF9⟩
  have HF9 := Lib.hid hF9
  clear hF9
  go_wp2_with fail
  go_ret
  exact ⟨rfl, HF1.out.trans HF9.out (fun _ _ h => h)⟩

set_option maxRecDepth 100000 in
theorem mono_bad (w : World) (a : Option Addr) (cap : Nat) (l : List Row) (ga : Option Addr) (gc : Nat) (g : List Id) (ha : Option Addr) (hc : Nat) (hh : List Id) (now later : Int) (hl : l.length ≤ 9223372036854775807) (hcap : l.length ≤ cap) (h : AtL w a 83 rowC l) (hr : RefsAt w l) (h2 : AtL w ga 32 idC g) (h3 : AtL w ha 32 idC hh) (hf : Few l g) (hm : hh.length ≤ 30) (hg : ¬ Good l) :
    Calls Try.prog 4 #[.slice a l.length cap, .slice ga g.length gc, .slice ha hh.length hc, .int .i64 now, .int .i64 later] w fun e w' => e = .returned (.bool true) ∧ Fr Non w w' := by
  have H := Lib.hid h
  have HL := Lib.hid hl
  have HC := Lib.hid hcap
  have HR := Lib.hid hr
  have H2 := Lib.hid h2
  have H3 := Lib.hid h3
  clear h hl hcap hr h2 h3
  have HF := Lib.hid hf
  have HG := Lib.hid hg
  have hm30 : (hh.length : Int) ≤ 30 := by omega
  clear hf hm hg
  go_enter Try.func4, Try.ntmps4
  go_wp2_with fail
  refine (known_c w).mono ?_
  rintro e w1 ⟨rfl, hF1⟩
  have HK2 := Lib.hid (check_f w1 a cap l HF.out.2.1 HC.out (H.out.non hF1) HG.out)
  have HK := Lib.hid (few_t w1 a cap l ga gc g HL.out (H.out.non hF1) HF.out)
  have HF1 := Lib.hid hF1
  clear hF1
  go_wp2_with fail
  refine HK.out.mono ?_
  rintro e w1' ⟨rfl, rfl⟩
  go_wp2_with fail
  refine HK2.out.mono ?_
  rintro e w2 ⟨c, rfl, hc0, hF2⟩
  have hc1 : c ≠ 0 := by simpa using hc0
  have HF2 := Lib.hid (HF1.out.trans hF2 (fun _ _ h => h))
  clear hF2
  go_wp2_with fail
  refine (known_c w2).mono ?_
  rintro e w9 ⟨rfl, hF9⟩
  have HF9 := Lib.hid hF9
  clear hF9
  go_wp2_with fail
  go_ret
  exact ⟨rfl, HF2.out.trans HF9.out (fun _ _ h => h)⟩

set_option maxRecDepth 100000 in
theorem mono_back (w : World) (a : Option Addr) (cap : Nat) (l : List Row) (ga : Option Addr) (gc : Nat) (g : List Id) (ha : Option Addr) (hc : Nat) (hh : List Id) (now later : Int) (hl : l.length ≤ 9223372036854775807) (hcap : l.length ≤ cap) (h : AtL w a 83 rowC l) (hr : RefsAt w l) (h2 : AtL w ga 32 idC g) (h3 : AtL w ha 32 idC hh) (hf : Few l g) (hm : hh.length ≤ 30) (hg : Good l) (hb : later < now) :
    Calls Try.prog 4 #[.slice a l.length cap, .slice ga g.length gc, .slice ha hh.length hc, .int .i64 now, .int .i64 later] w fun e w' => e = .returned (.bool true) ∧ Fr Non w w' := by
  have H := Lib.hid h
  have HL := Lib.hid hl
  have HC := Lib.hid hcap
  have HR := Lib.hid hr
  have H2 := Lib.hid h2
  have H3 := Lib.hid h3
  clear h hl hcap hr h2 h3
  have HF := Lib.hid hf
  have HG := Lib.hid hg
  have hm30 : (hh.length : Int) ≤ 30 := by omega
  clear hf hm hg
  go_enter Try.func4, Try.ntmps4
  go_wp2_with fail
  refine (known_c w).mono ?_
  rintro e w1 ⟨rfl, hF1⟩
  have HK2 := Lib.hid (check_t w1 a cap l HF.out.2.1 HC.out (H.out.non hF1) HG.out)
  have HK := Lib.hid (few_t w1 a cap l ga gc g HL.out (H.out.non hF1) HF.out)
  have HF1 := Lib.hid hF1
  clear hF1
  go_wp2_with fail
  refine HK.out.mono ?_
  rintro e w1' ⟨rfl, rfl⟩
  go_wp2_with fail
  refine HK2.out.mono ?_
  rintro e w2 ⟨rfl, hF2⟩
  have HF2 := Lib.hid (HF1.out.trans hF2 (fun _ _ h => h))
  clear hF2
  go_wp2_with fail
  refine (known_c w2).mono ?_
  rintro e w9 ⟨rfl, hF9⟩
  have HF9 := Lib.hid hF9
  clear hF9
  go_wp2_with fail
  go_ret
  exact ⟨rfl, HF2.out.trans HF9.out (fun _ _ h => h)⟩

set_option maxRecDepth 100000 in
set_option maxHeartbeats 1000000 in
theorem mono_good (w : World) (a : Option Addr) (cap : Nat) (l : List Row) (ga : Option Addr) (gc : Nat) (g : List Id) (ha : Option Addr) (hc : Nat) (hh : List Id) (now later : Int) (hl : l.length ≤ 9223372036854775807) (hcap : l.length ≤ cap) (h : AtL w a 83 rowC l) (hr : RefsAt w l) (h2 : AtL w ga 32 idC g) (h3 : AtL w ha 32 idC hh) (hf : Few l g) (hm : hh.length ≤ 30) (hg : Good l) (hb : ¬ later < now) :
    Calls Try.prog 4 #[.slice a l.length cap, .slice ga g.length gc, .slice ha hh.length hc, .int .i64 now, .int .i64 later] w fun e w' => e = .returned (.bool true) ∧ Fr Non w w' := by
  have H := Lib.hid h
  have HL := Lib.hid hl
  have HC := Lib.hid hcap
  have HR := Lib.hid hr
  have H2 := Lib.hid h2
  have H3 := Lib.hid h3
  clear h hl hcap hr h2 h3
  have HF := Lib.hid hf
  have HG := Lib.hid hg
  have HM := Lib.hid hm
  have hm30 : (hh.length : Int) ≤ 30 := by omega
  have hle : now ≤ later := by omega
  have HLE := Lib.hid hle
  clear hf hm hg hb
  go_enter Try.func4, Try.ntmps4
  go_wp2_with fail
  refine (known_c w).mono ?_
  rintro e w1 ⟨rfl, hF1⟩
  have HK2 := Lib.hid (check_t w1 a cap l HF.out.2.1 HC.out (H.out.non hF1) HG.out)
  have HK := Lib.hid (few_t w1 a cap l ga gc g HL.out (H.out.non hF1) HF.out)
  have HF1 := Lib.hid hF1
  clear hF1
  go_wp2_with fail
  refine HK.out.mono ?_
  rintro e w1' ⟨rfl, rfl⟩
  go_wp2_with fail
  refine HK2.out.mono ?_
  rintro e w2 ⟨rfl, hF2⟩
  have hF02 := HF1.out.trans hF2 (fun _ _ h => h)
  have HK3 := Lib.hid (Shown_l w2 a cap l ga gc g now HG.out (by have := HF.out.2.2; omega) (H.out.non hF02) (HR.out.non hF02) (H2.out.non hF02))
  have HF02 := Lib.hid hF02
  clear hF2 hF02
  obtain ⟨s, hs⟩ : ∃ s, s = shown l g now := ⟨_, rfl⟩
  obtain ⟨s2, hs2⟩ : ∃ s, s = shown l (g ++ hh) later := ⟨_, rfl⟩
  have HLAW := Lib.hid (fun (x : Id) (hx : x ∈ s) => (show x ∈ s2 from hs2 ▸ shown_mono HLE.out (hs ▸ hx)))
  have HSL := Lib.hid (show s.length ≤ 30 from by have := shown_le l g now; rw [← hs] at this; have := HF.out.2.1; omega)
  have HSL2 := Lib.hid (show s2.length ≤ 1000000 from by have := shown_le l (g ++ hh) later; rw [← hs2] at this; have := HF.out.2.1; omega)
  have HS2 := Lib.hid hs2
  rw [← hs] at HK3
  clear hs hs2
  go_wp2_with fail
  refine HK3.out.mono ?_
  rintro e w3 ⟨b3, c3, rfl, hA3, hF3⟩
  have hF03 := HF02.out.trans hF3 (fun _ _ h => h)
  have hFe : Fr Non w3 (w3.alloc (.cells #[] 31)) := (Fr.refl Non w3).alloc _
  obtain ⟨b4, c4, w4, r4, o4, hb4, hF4⟩ := app_ids g.length ga gc hFe (own31_empty w3) (Nat.le_refl _) ((H2.out.non hF03).non hFe) rfl (by simp) (by simp) (by have := HF.out.2.2; omega)
  obtain ⟨b5, c5, w5, r5, o5, hb5, hF5⟩ := app_ids (g.length + hh.length) ha hc hF4 o4 hb4 ((H3.out.non hF03).non hF4) (by simp) rfl (by simp; have := HF.out.2.2; omega) (by have := HM.out; omega)
  have hF05 := hF03.trans hF5 (fun _ _ h => h)
  have ho5 := AtL.own elem31 o5
  simp only [List.nil_append] at ho5
  have hk5 := Shown_l w5 a cap l (some ⟨b5, 0, none⟩) c5 (g ++ hh) later HG.out (by rw [List.length_append]; have := HF.out.2.2; have := HM.out; omega) (H.out.non hF05) (HR.out.non hF05) ho5
  rw [← HS2.out, List.length_append] at hk5
  have HK5 := Lib.hid hk5
  have HR4 := Lib.hid r4
  have HR5 := Lib.hid r5
  have HA3 := Lib.hid (hA3.non hF5)
  have HF05 := Lib.hid hF05
  clear hA3 hF3 hF03 hFe r4 o4 hb4 hF4 r5 o5 hb5 hF5 hF05 ho5 hk5
  go_wp2_with (first
    | (guard_target =~ wpList _ _ _ (⟨_, Op.buildSlice _ _ _, _, _, _, _⟩ :: _) _ _; refine wl rfl (r_buildSlice (vs := []) rfl rfl (buildSlice23_0 w3)) ?_; simp only [Act.put, List.setIfInBounds_toArray, List.set_cons_zero, List.set_cons_succ])
    | (guard_target =~ wpList _ _ _ (⟨some 51, _, _, _, _, _⟩ :: _) _ _; refine wl rfl (r_builtin (vs := [.slice (some ⟨w3.heap.size, 0, none⟩) 0 0, .slice ga g.length gc]) rfl rfl (builtin_append HR4.out)) ?_; simp only [Act.put, List.setIfInBounds_toArray, List.set_cons_zero, List.set_cons_succ])
    | (guard_target =~ wpList _ _ _ (⟨some 53, _, _, _, _, _⟩ :: _) _ _; refine wl rfl (r_builtin (vs := [.slice (some ⟨b4, 0, none⟩) g.length c4, .slice ha hh.length hc]) rfl rfl (builtin_append HR5.out)) ?_; simp only [Act.put, List.setIfInBounds_toArray, List.set_cons_zero, List.set_cons_succ])
    | fail)
  refine HK5.out.mono ?_
  rintro e w6 ⟨b6, c6, rfl, hA6, hF6⟩
  have HA36 := Lib.hid (HA3.out.non hF6)
  have HA6 := Lib.hid hA6
  have HF6 := Lib.hid (HF05.out.trans hF6 (fun _ _ h => h))
  clear hA6 hF6
  go_wp2_with fail
  go_loopw [10, 15] (fun u i wr => u = .bool false ∧ ∃ k : Nat, i = .int .i64 k ∧ k ≤ s.length ∧ Fr Non w6 wr) (fun _ i _ => s.length - (intOf i).toNat)
  case atStart => exact ⟨rfl, 0, rfl, Nat.zero_le _, Fr.refl _ _⟩
  case round =>
    obtain ⟨rfl, k, rfl, hk, hF⟩ := hrel
    have HFW := Lib.hid hF
    clear hF
    by_cases hlt : k < s.length
    · obtain ⟨x, hx⟩ : ∃ x, s[k]? = some x := ⟨_, List.getElem?_eq_getElem hlt⟩
      have hk9 : (k : Int) ≤ 30 := by have := HSL.out; omega
      obtain ⟨b7, o7, rfl, hxr⟩ := (HA36.out.non HFW.out).get hx
      have HX := Lib.hid (has_c wr b6 c6 s2 x HSL2.out (HA6.out.non HFW.out))
      rw [decide_eq_true (HLAW.out x (List.mem_of_getElem? hx))] at HX
      have HXR := Lib.hid hxr
      have HLT := Lib.hid hlt
      clear hxr hx
      go_wp2_with (first
        | (guard_target =~ wpList _ _ _ (⟨some 74, Op.load 31 _, _, _, _, _⟩ :: _) _ _; refine wl rfl (r_load (b := b7) (i := o7 + k * 32) rfl rfl HXR.out Try.underlying31 rfl (by rw [sz31, idC_length])) ?_; simp only [Act.put, List.setIfInBounds_toArray, List.set_cons_zero, List.set_cons_succ])
        | fail)
      refine HX.out.mono ?_
      rintro e wr1 ⟨rfl, hf1⟩
      have HF1W := Lib.hid hf1
      clear hf1
      go_wp2_with fail
      go_roundw
      case rel => exact ⟨rfl, k + 1, by go_num, by have := HLT.out; omega, HFW.out.trans HF1W.out (fun _ _ h => h)⟩
      case measure => have := HLT.out; simp [intOf] <;> omega
    · obtain rfl : k = s.length := by omega
      go_wp2_with fail
      go_ret
      exact ⟨rfl, HF6.out.trans HFW.out (fun _ _ h => h)⟩

theorem mono_walk (w : World) (a : Option Addr) (cap : Nat) (l : List Row) (ga : Option Addr) (gc : Nat) (g : List Id) (ha : Option Addr) (hc : Nat) (hh : List Id) (now later : Int) (hl : l.length ≤ 9223372036854775807) (hcap : l.length ≤ cap) (h : AtL w a 83 rowC l) (hr : RefsAt w l) (h2 : AtL w ga 32 idC g) (h3 : AtL w ha 32 idC hh) :
    Calls Try.prog 4 #[.slice a l.length cap, .slice ga g.length gc, .slice ha hh.length hc, .int .i64 now, .int .i64 later] w fun e w' => e = .returned (.bool true) ∧ Fr Non w w' := by
  by_cases hf : Few l g
  · by_cases hm : hh.length ≤ 30
    · by_cases hg : Good l
      · by_cases hb : later < now
        · exact mono_back w a cap l ga gc g ha hc hh now later hl hcap h hr h2 h3 hf hm hg hb
        · exact mono_good w a cap l ga gc g ha hc hh now later hl hcap h hr h2 h3 hf hm hg hb
      · exact mono_bad w a cap l ga gc g ha hc hh now later hl hcap h hr h2 h3 hf hm hg
    · exact mono_more w a cap l ga gc g ha hc hh now later hl hcap h hr h2 h3 hf hm
  · exact mono_few w a cap l ga gc g ha hc hh now later hl hcap h hr h2 h3 hf
end Go.Proofs.Ytfemaeacmnhdlaa
