/-
  The law's own answer, walked.
-/
import Derived.Test.YtfemaeacmnhdlaaVL
namespace Go.Proofs.Ytfemaeacmnhdlaa
open Go.RowKit

def boolC (l : List Bool) : Array Value := (l.map Value.bool).toArray
theorem boolC_get (l : List Bool) (i : Nat) (b : Bool) (h : l[i]? = some b) : (boolC l)[i]? = some (.bool b) := by simp [boolC, h]
theorem boolC_set (l : List Bool) (i : Nat) : (boolC l).setIfInBounds i (.bool true) = boolC (l.set i true) := by
  unfold boolC
  apply Array.ext'
  simp
theorem info4 : (Try.prog.info? 4).map (fun i => (i.zero, i.size, i.bytes)) = some (some (.bool false), 1, 1) := by kernel_rfl
theorem run_makeBool (w : World) (n : Nat) (hn : n ≤ 4096) : (Instr.makeSlice 79 (.int .i64 n) (.int .i64 n)).run Try.prog w = .ok (.slice (some ⟨w.heap.size, 0, none⟩) n n) (w.alloc (.cells (boolC (List.replicate n false)) 4)) := by
  obtain ⟨i, hi, hz, hs, hb⟩ := info_parts info4
  have := run_make (P := Try.prog) w 79 4 i _ Try.underlying79 hi hz .i64 .i64 n n (by omega) (by omega) (by rw [hb]; omega) (by omega)
  rw [this, hs]
  have e : madeCells (Value.bool false).cells ((n : Int).toNat * 1) = boolC (List.replicate n false) := by
    unfold madeCells boolC
    apply Array.ext'
    simp only [Array.toList_map, Array.toList_range, List.map_replicate]
    apply List.ext_getElem
    · simp
    · intro i h1 h2
      simp [Value.cells, Nat.mod_one]
  rw [e]
  simp
def isF0 : Value → Bool
  | .bool false => true
  | _ => false
def unmW (w : World) (g0 : Nat) : Nat :=
  match w.heap[g0]? with
  | some (.cells cs _ _) => (cs.toList.filter isF0).length
  | _ => 0
theorem unmW_of {w : World} {g0 : Nat} {m : List Bool} (h : w.heap[g0]? = some (.cells (boolC m) 4)) : unmW w g0 = unm m := by
  unfold unmW
  rw [h]
  show ((boolC m).toList.filter isF0).length = unm m
  unfold boolC unm
  rw [List.filter_map, List.length_map]
  congr 2
  funext b
  cases b <;> rfl
theorem closed_succ {l : List Row} {g : List Id} {now : Int} {m : List Bool} {k : Nat} {r : Row} (h : ClosedM l g now m k) (hr : l[k]? = some r) (hk : cnd l g now m r = true → m[k]? = some true) : ClosedM l g now m (k + 1) := by
  intro i y hi hy hc
  by_cases e : i = k
  · subst e
    rw [hr] at hy; cases hy
    exact hk hc
  · exact h i y (by omega) hy hc
theorem cnd_root {l : List Row} {g : List Id} {now : Int} {m : List Bool} {r : Row} (h : r.refs.length = 0) : cnd l g now m r = true := by
  have : r.refs = [] := List.eq_nil_of_length_eq_zero h
  unfold cnd; rw [this]; rfl
theorem cnd_some {l : List Row} {g : List Id} {now : Int} {m : List Bool} {r : Row} {y : Id} {j : Nat} {b : Bool} (h : r.refs.getLast? = some y) (hx : rowIx l y = some j) (hb : m[j]? = some b) : cnd l g now m r = b := by
  unfold cnd; rw [h]; simp only; rw [hx]; simp only; rw [List.getD_eq_getElem?_getD, hb]; rfl
theorem cnd_none {l : List Row} {g : List Id} {now : Int} {m : List Bool} {r : Row} {y : Id} (h : r.refs.getLast? = some y) (hx : rowIx l y = none) : cnd l g now m r = (decide (y ∈ g) || decide (r.date + 2880 ≤ now)) := by
  unfold cnd; rw [h]; simp only; rw [hx]

def MarksTo (w w' : World) (e : Ending) (l : List Row) (m : List Bool) : Prop := ∃ g0, e = .returned (.slice (some ⟨g0, 0, none⟩) l.length l.length) ∧ w'.heap[g0]? = some (.cells (boolC m) 4) ∧ w.heap.size ≤ g0 ∧ Fr Non w w'

set_option maxRecDepth 100000 in
set_option maxHeartbeats 2000000 in
theorem marks_c (w : World) (a : Option Addr) (cap : Nat) (l : List Row) (ga : Option Addr) (gc : Nat) (g : List Id) (now : Int) (hl : l.length ≤ 30) (hg30 : g.length ≤ 1000000) (hg : Good l) (h : AtL w a 83 rowC l) (hr : RefsAt w l) (h2 : AtL w ga 32 idC g) :
    Calls Try.prog 48 #[.slice a l.length cap, .slice ga g.length gc, .int .i64 now] w fun e w' => MarksTo w w' e l (shM l g now) := by
  have hF0 : Fr Non w (w.alloc (.cells (boolC (List.replicate l.length false)) 4)) := (Fr.refl _ w).alloc _
  have hh0 := heap_alloc_new w (.cells (boolC (List.replicate l.length false)) 4)
  obtain ⟨w0, hw0⟩ : ∃ w0, w.alloc (.cells (boolC (List.replicate l.length false)) 4) = w0 := ⟨_, rfl⟩
  rw [hw0] at hF0 hh0
  obtain ⟨g0, hg0⟩ : ∃ b, w.heap.size = b := ⟨_, rfl⟩
  rw [hg0] at hh0
  have HG0 := Lib.hid (show w.heap.size ≤ g0 from by omega)
  have HH0 := Lib.hid hh0
  have HF0 := Lib.hid hF0
  have HGOOD := Lib.hid hg
  have H := Lib.hid h
  have HR := Lib.hid hr
  have H2 := Lib.hid h2
  have HL := Lib.hid hl
  have HG30 := Lib.hid hg30
  have hmk := run_makeBool w l.length (by omega)
  rw [hw0, hg0] at hmk
  have HMK := Lib.hid hmk
  have hl30 : (l.length : Int) ≤ 30 := by omega
  clear hF0 hh0 hg h hr h2 hl hg30 hmk
  go_enter Try.func48, Try.ntmps48
  go_wp2_with (first
    | (guard_target =~ wpList _ _ _ (⟨_, Op.makeSlice _ _ _, _, _, _, _⟩ :: _) _ _; refine wl rfl (r_makeSlice rfl rfl rfl HMK.out) ?_)
    | fail)
  clear hw0
  go_loopw [8] (fun c wr => ∃ (m : List Bool) (b : Bool), c = .bool b ∧ SoundM l g now m ∧ wr.heap[g0]? = some (.cells (boolC m) 4) ∧ (b = false → ClosedM l g now m l.length) ∧ Fr Non w wr) (fun c wr => 2 * unmW wr g0 + (match c with | .bool true => 1 | _ => 0))
  case atStart => exact ⟨_, true, rfl, sound_none l g now, HH0.out, (fun e => by cases e), HF0.out⟩
  case round =>
    obtain ⟨m, b, rfl, hs, hh, hc, hF⟩ := hrel
    have HS0 := Lib.hid hs
    have HHO := Lib.hid hh
    have HC0 := Lib.hid hc
    have HFO := Lib.hid hF
    clear hs hh hc hF
    cases b with
    | false =>
      go_wp2_with fail
      go_ret
      exact ⟨g0, rfl, by rw [← marks_done HGOOD.out HS0.out (HC0.out (by trivial))]; exact HHO.out, HG0.out, HFO.out⟩
    | true =>
      obtain ⟨wo, rfl⟩ : ∃ wo : World, wo = wr := ⟨_, rfl⟩
      go_wp2_with fail
      go_loopw [8, 9] (fun c i wr => ∃ (k : Nat) (m2 : List Bool) (b2 : Bool), c = .bool b2 ∧ i = .int .i64 k ∧ k ≤ l.length ∧ SoundM l g now m2 ∧ wr.heap[g0]? = some (.cells (boolC m2) 4) ∧ (b2 = false → m2 = m ∧ ClosedM l g now m k) ∧ (b2 = true → unm m2 < unm m) ∧ Fr Non w wr) (fun _ i _ => l.length - (intOf i).toNat)
      case atStart => exact ⟨0, m, false, rfl, rfl, Nat.zero_le _, HS0.out, HHO.out, fun _ => ⟨rfl, fun i r hi => by omega⟩, (fun e => by cases e), HFO.out⟩
      case round =>
        obtain ⟨k, m2, b2, rfl, rfl, hk, hs, hh, hc, hu, hF⟩ := hrel
        have HS := Lib.hid hs
        have HH := Lib.hid hh
        have HC := Lib.hid hc
        have HU := Lib.hid hu
        have HFW := Lib.hid hF
        have HU2 : Hid (unm m2 ≤ unm m) := by
          cases b2 with
          | true => exact Nat.le_of_lt (hu rfl)
          | false => rw [(hc rfl).1]; exact Nat.le_refl _
        clear hs hh hc hu hF
        by_cases hlt : k < l.length
        · obtain ⟨r, hr⟩ : ∃ r, l[k]? = some r := ⟨_, List.getElem?_eq_getElem hlt⟩
          have hk9 : (k : Int) ≤ 30 := by omega
          obtain ⟨b1, o1, rfl, hrr⟩ := (H.out.non HFW.out).get hr
          have hc50 : wr.cell? ⟨b1, o1 + k * 83 + 50, none⟩ = some (.slice r.ra r.refs.length r.rc) := hrr 50 _ (rowC_refs r)
          have hrl := HGOOD.out.2.1 r (List.mem_of_getElem? hr)
          have hn20 : (r.refs.length : Int) ≤ 20 := by have := hrl.2.2; omega
          obtain ⟨bk, hbk⟩ : ∃ bk, m2[k]? = some bk := ⟨_, List.getElem?_eq_getElem (by rw [HS.out.1]; exact hlt)⟩
          have HBK := Lib.hid hbk
          have HRR := Lib.hid hrr
          have HRE := Lib.hid hr
          have HLT := Lib.hid hlt
          have HMEM := Lib.hid (List.mem_of_getElem? hr)
          have hd0 := hrl.1
          have hd1 := hrl.2.1
          have HFR : Hid (Fr Non wr wr) := Fr.refl _ _
          clear hrr hr hbk hrl
          rcases Nat.eq_zero_or_pos r.refs.length with h0 | h0
          · have HCND := Lib.hid (cnd_root (l := l) (g := g) (now := now) (m := m2) h0)
            have h0' : (r.refs.length : Int) = 0 := by omega
            have HHW := Lib.hid (HFR.out.keep HH.out (fun h => h))
            have hck : wr.cell? ⟨g0, k, none⟩ = some (.bool bk) := cellOf HHW.out k (boolC_get _ _ _ HBK.out)
            cases bk with
            | true =>
              go_wp2_with fail
              go_roundw
              case rel => exact ⟨k + 1, m2, b2, rfl, by go_num, by have := HLT.out; omega, HS.out, HHW.out, fun e => ⟨(HC.out e).1, closed_succ (HC.out e).2 HRE.out (fun _ => by have := HBK.out; rw [(HC.out e).1] at this; exact this)⟩, HU.out, HFW.out.trans HFR.out (fun _ _ h => h)⟩
              case measure => have := HLT.out; simp [intOf] <;> omega
            | false =>
              have hft := frozenOf HHW.out k
              have HSET := Lib.hid (heap_setCell_at HHW.out k (.bool true))
              rw [boolC_set] at HSET
              have HFS : Hid (Fr Non w (wr.setCell ⟨g0, k, none⟩ (.bool true))) := (HFW.out.trans HFR.out (fun _ _ h => h)).setCell _ _ (fun hi => by have hi' : g0 < w.heap.size := hi; have := HG0.out; omega)
              go_wp2_with fail
              go_roundw
              case rel => exact ⟨k + 1, m2.set k true, true, rfl, by go_num, by have := HLT.out; omega, sound_set HGOOD.out HS.out HRE.out HCND.out, HSET.out, (fun e => by cases e), fun _ => Nat.lt_of_lt_of_le (unm_set HBK.out) HU2.out, HFS.out⟩
              case measure => have := HLT.out; simp [intOf] <;> omega
          · obtain ⟨q, hm⟩ : ∃ q, r.refs.length = q + 1 := ⟨r.refs.length - 1, by omega⟩
            have hm19 : (q : Int) ≤ 19 := by omega
            obtain ⟨y, hy⟩ : ∃ y, r.refs[q]? = some y := ⟨_, List.getElem?_eq_getElem (by omega)⟩
            have hlast : r.refs.getLast? = some y := by rw [List.getLast?_eq_getElem?, hm]; exact hy
            obtain ⟨rb, ro, hra, hrg⟩ := (HR.out.non HFW.out r HMEM.out).get hy
            rw [hra, hm] at hc50
            have HRG := Lib.hid hrg
            have HLAST := Lib.hid hlast
            clear hrg hlast hy h0 hm hra hn20
            have hb3 := heap_alloc_new wr (.cells (idC y).toArray 31)
            have hF3 : Fr Non wr (wr.alloc (.cells (idC y).toArray 31)) := (Fr.refl _ wr).alloc _
            obtain ⟨w3, hw3⟩ : ∃ w3, wr.alloc (.cells (idC y).toArray 31) = w3 := ⟨_, rfl⟩
            rw [hw3] at hb3 hF3
            obtain ⟨bp, hbp⟩ : ∃ b, wr.heap.size = b := ⟨_, rfl⟩
            rw [hbp] at hb3
            have HB3 := Lib.hid hb3
            have HB3r := Lib.hid (rangeAt_of hb3 0 (idC y) (by simp))
            have HF3 := Lib.hid hF3
            have HY := Lib.hid (row_c w3 (some ⟨b1, o1, none⟩) cap l y (by have := HL.out; omega) ((H.out.non HFW.out).non hF3))
            clear hb3 hF3
            go_wp2_with (first
              | (guard_target =~ wpList _ _ _ (⟨some 42, Op.load 31 _, _, _, _, _⟩ :: _) _ _; refine wl rfl (r_load (b := rb) (i := ro + q * 32) rfl rfl HRG.out Try.underlying31 rfl (by rw [sz31, idC_length])) ?_; simp only [Act.put, List.setIfInBounds_toArray, List.set_cons_zero, List.set_cons_succ])
              | (guard_target =~ wpList _ _ _ (⟨_, Op.alloc 31, _, _, _, _⟩ :: _) _ _; refine wl rfl (r_allocA rfl (zero31 _)) ?_; rw [hbp]; simp only [Act.put, List.setIfInBounds_toArray, List.set_cons_zero, List.set_cons_succ])
              | (guard_target =~ wpList _ _ _ (⟨_, Op.store 31 _ _, _, _, _, _⟩ :: _) _ _; refine wu rfl (r_store_new (c' := (idC y).toArray) rfl (by rw [← hbp]; rfl) rfl (by rw [sz31]; simp [idC_length]) (by simp [idC_length]) (all_oneCell_toArray (idC_one y))) ?_; rw [hw3]; simp only [Act.put, List.setIfInBounds_toArray, List.set_cons_zero, List.set_cons_succ])
              | (guard_target =~ wpList _ _ _ (⟨some 44, Op.load 31 _, _, _, _, _⟩ :: _) _ _; refine wl rfl (r_load (b := bp) (i := 0) rfl rfl HB3r.out Try.underlying31 rfl (by rw [sz31, idC_length])) ?_; simp only [Act.put, List.setIfInBounds_toArray, List.set_cons_zero, List.set_cons_succ])
              | fail)
            refine HY.out.mono ?_
            rintro e w4 ⟨rfl, hF4⟩
            have HF4 := Lib.hid (HF3.out.trans hF4 (fun _ _ h => h))
            have HB4 := Lib.hid (rng_fr hF4 HB3r.out)
            clear hF4 hw3
            cases hix : rowIx l y with
            | some j =>
              obtain ⟨rq, hjq, -⟩ := rowIx_row hix
              have hjl : j < l.length := (List.getElem?_eq_some_iff.1 hjq).1
              have hj30 : (j : Int) ≤ 30 := by omega
              obtain ⟨bj, hbj⟩ : ∃ bj, m2[j]? = some bj := ⟨_, List.getElem?_eq_getElem (by rw [HS.out.1]; exact hjl)⟩
              have HCND := Lib.hid (cnd_some (l := l) (g := g) (now := now) HLAST.out hix hbj)
              have hcj : w4.cell? ⟨g0, j, none⟩ = some (.bool bj) := cellOf (HF4.out.keep HH.out (fun h => h)) j (boolC_get _ _ _ hbj)
              have hixi : ixI (some j) = (j : Int) := rfl
              clear hix hbj hjq
              cases bj with
              | true =>
                have HHW := Lib.hid (HF4.out.keep HH.out (fun h => h))
                have hck : w4.cell? ⟨g0, k, none⟩ = some (.bool bk) := cellOf HHW.out k (boolC_get _ _ _ HBK.out)
                cases bk with
                | true =>
                  go_wp2_with fail
                  go_roundw
                  case rel => exact ⟨k + 1, m2, b2, rfl, by go_num, by have := HLT.out; omega, HS.out, HHW.out, fun e => ⟨(HC.out e).1, closed_succ (HC.out e).2 HRE.out (fun _ => by have := HBK.out; rw [(HC.out e).1] at this; exact this)⟩, HU.out, HFW.out.trans HF4.out (fun _ _ h => h)⟩
                  case measure => have := HLT.out; simp [intOf] <;> omega
                | false =>
                  have hft := frozenOf HHW.out k
                  have HSET := Lib.hid (heap_setCell_at HHW.out k (.bool true))
                  rw [boolC_set] at HSET
                  have HFS : Hid (Fr Non w (w4.setCell ⟨g0, k, none⟩ (.bool true))) := (HFW.out.trans HF4.out (fun _ _ h => h)).setCell _ _ (fun hi => by have hi' : g0 < w.heap.size := hi; have := HG0.out; omega)
                  go_wp2_with fail
                  go_roundw
                  case rel => exact ⟨k + 1, m2.set k true, true, rfl, by go_num, by have := HLT.out; omega, sound_set HGOOD.out HS.out HRE.out HCND.out, HSET.out, (fun e => by cases e), fun _ => Nat.lt_of_lt_of_le (unm_set HBK.out) HU2.out, HFS.out⟩
                  case measure => have := HLT.out; simp [intOf] <;> omega
              | false =>
                have HHW := Lib.hid (HF4.out.keep HH.out (fun h => h))
                go_wp2_with fail
                go_roundw
                case rel => exact ⟨k + 1, m2, b2, rfl, by go_num, by have := HLT.out; omega, HS.out, HHW.out, fun e => ⟨(HC.out e).1, closed_succ (HC.out e).2 HRE.out (fun hc => by have h1 := HCND.out; rw [(HC.out e).1, hc] at h1; cases h1)⟩, HU.out, HFW.out.trans HF4.out (fun _ _ h => h)⟩
                case measure => have := HLT.out; simp [intOf] <;> omega
            | none =>
              have HCN := Lib.hid (cnd_none (l := l) (g := g) (now := now) (m := m2) HLAST.out hix)
              have HX := Lib.hid (has_c w4 ga gc g y HG30.out ((H2.out.non HFW.out).non HF4.out))
              have hixi : ixI none = -1 := rfl
              clear hix
              by_cases hin : y ∈ g
              · rw [decide_eq_true hin] at HX
                have HCND : Hid (cnd l g now m2 r = true) := by have := HCN.out; rw [decide_eq_true hin, Bool.true_or] at this; exact this
                clear hin
                go_wp2_with (first
                  | (guard_target =~ wpList _ _ _ (⟨some 59, Op.load 31 _, _, _, _, _⟩ :: _) _ _; refine wlg rfl (r_load (b := bp) (i := 0) rfl rfl HB4.out Try.underlying31 rfl (by rw [sz31, idC_length])) ?_; simp only [Act.put, List.setIfInBounds_toArray, List.set_cons_zero, List.set_cons_succ])
                  | fail)
                refine HX.out.mono ?_
                rintro e w5 ⟨rfl, hF5⟩
                have HF5 := Lib.hid (HF4.out.trans hF5 (fun _ _ h => h))
                clear hF5
                have HHW := Lib.hid (HF5.out.keep HH.out (fun h => h))
                have hck : w5.cell? ⟨g0, k, none⟩ = some (.bool bk) := cellOf HHW.out k (boolC_get _ _ _ HBK.out)
                cases bk with
                | true =>
                  go_wp2_with fail
                  go_roundw
                  case rel => exact ⟨k + 1, m2, b2, rfl, by go_num, by have := HLT.out; omega, HS.out, HHW.out, fun e => ⟨(HC.out e).1, closed_succ (HC.out e).2 HRE.out (fun _ => by have := HBK.out; rw [(HC.out e).1] at this; exact this)⟩, HU.out, HFW.out.trans HF5.out (fun _ _ h => h)⟩
                  case measure => have := HLT.out; simp [intOf] <;> omega
                | false =>
                  have hft := frozenOf HHW.out k
                  have HSET := Lib.hid (heap_setCell_at HHW.out k (.bool true))
                  rw [boolC_set] at HSET
                  have HFS : Hid (Fr Non w (w5.setCell ⟨g0, k, none⟩ (.bool true))) := (HFW.out.trans HF5.out (fun _ _ h => h)).setCell _ _ (fun hi => by have hi' : g0 < w.heap.size := hi; have := HG0.out; omega)
                  go_wp2_with fail
                  go_roundw
                  case rel => exact ⟨k + 1, m2.set k true, true, rfl, by go_num, by have := HLT.out; omega, sound_set HGOOD.out HS.out HRE.out HCND.out, HSET.out, (fun e => by cases e), fun _ => Nat.lt_of_lt_of_le (unm_set HBK.out) HU2.out, HFS.out⟩
                  case measure => have := HLT.out; simp [intOf] <;> omega
              · rw [decide_eq_false hin] at HX
                have HCN2 : Hid (cnd l g now m2 r = decide (r.date + 2880 ≤ now)) := by have := HCN.out; rw [decide_eq_false hin, Bool.false_or] at this; exact this
                clear hin
                go_wp2_with (first
                  | (guard_target =~ wpList _ _ _ (⟨some 59, Op.load 31 _, _, _, _, _⟩ :: _) _ _; refine wlg rfl (r_load (b := bp) (i := 0) rfl rfl HB4.out Try.underlying31 rfl (by rw [sz31, idC_length])) ?_; simp only [Act.put, List.setIfInBounds_toArray, List.set_cons_zero, List.set_cons_succ])
                  | fail)
                refine HX.out.mono ?_
                rintro e w5 ⟨rfl, hF5⟩
                have HF5 := Lib.hid (HF4.out.trans hF5 (fun _ _ h => h))
                have hc48 : w5.cell? ⟨b1, o1 + k * 83 + 48, none⟩ = some (.int .i64 r.date) := HF5.out.cell (HRR.out 48 _ (rowC_date r)) (fun h => h)
                clear hF5
                by_cases hd : r.date + 2880 ≤ now
                · have HCND : Hid (cnd l g now m2 r = true) := by have := HCN2.out; rw [decide_eq_true hd] at this; exact this
                  have HHW := Lib.hid (HF5.out.keep HH.out (fun h => h))
                  have hck : w5.cell? ⟨g0, k, none⟩ = some (.bool bk) := cellOf HHW.out k (boolC_get _ _ _ HBK.out)
                  cases bk with
                  | true =>
                    go_wp2_with fail
                    go_roundw
                    case rel => exact ⟨k + 1, m2, b2, rfl, by go_num, by have := HLT.out; omega, HS.out, HHW.out, fun e => ⟨(HC.out e).1, closed_succ (HC.out e).2 HRE.out (fun _ => by have := HBK.out; rw [(HC.out e).1] at this; exact this)⟩, HU.out, HFW.out.trans HF5.out (fun _ _ h => h)⟩
                    case measure => have := HLT.out; simp [intOf] <;> omega
                  | false =>
                    have hft := frozenOf HHW.out k
                    have HSET := Lib.hid (heap_setCell_at HHW.out k (.bool true))
                    rw [boolC_set] at HSET
                    have HFS : Hid (Fr Non w (w5.setCell ⟨g0, k, none⟩ (.bool true))) := (HFW.out.trans HF5.out (fun _ _ h => h)).setCell _ _ (fun hi => by have hi' : g0 < w.heap.size := hi; have := HG0.out; omega)
                    go_wp2_with fail
                    go_roundw
                    case rel => exact ⟨k + 1, m2.set k true, true, rfl, by go_num, by have := HLT.out; omega, sound_set HGOOD.out HS.out HRE.out HCND.out, HSET.out, (fun e => by cases e), fun _ => Nat.lt_of_lt_of_le (unm_set HBK.out) HU2.out, HFS.out⟩
                    case measure => have := HLT.out; simp [intOf] <;> omega
                · have HCND : Hid (cnd l g now m2 r = false) := by have := HCN2.out; rw [decide_eq_false hd] at this; exact this
                  have hd2 : now < r.date + 2880 := by omega
                  have HHW := Lib.hid (HF5.out.keep HH.out (fun h => h))
                  go_wp2_with fail
                  go_roundw
                  case rel => exact ⟨k + 1, m2, b2, rfl, by go_num, by have := HLT.out; omega, HS.out, HHW.out, fun e => ⟨(HC.out e).1, closed_succ (HC.out e).2 HRE.out (fun hc => by have h1 := HCND.out; rw [(HC.out e).1, hc] at h1; cases h1)⟩, HU.out, HFW.out.trans HF5.out (fun _ _ h => h)⟩
                  case measure => have := HLT.out; simp [intOf] <;> omega
        · obtain rfl : k = l.length := by omega
          go_wp2_with fail
          go_roundw
          case rel => exact ⟨m2, b2, rfl, HS.out, HH.out, fun e => by rw [(HC.out e).1]; exact (HC.out e).2, HFW.out⟩
          case measure =>
            have e1 := unmW_of HH.out
            have e2 := unmW_of HHO.out
            rw [e1, e2]
            cases b2 with
            | true => have := HU.out rfl; simp; omega
            | false => have := HU2.out; simp; omega
end Go.Proofs.Ytfemaeacmnhdlaa
