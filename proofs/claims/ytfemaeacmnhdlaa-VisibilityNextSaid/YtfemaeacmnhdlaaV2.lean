/-
  few, check; Until.
-/
import Derived.Test.YtfemaeacmnhdlaaV1
namespace Go.Proofs.Ytfemaeacmnhdlaa
open Go.RowKit

def Few (l : List Row) (g : List Id) : Prop := (∀ r ∈ l, r.refs.length ≤ 30) ∧ l.length ≤ 30 ∧ g.length ≤ 30
theorem forall_take_succ {α : Type} {l : List α} {k : Nat} {y : α} {p : α → Prop} (h : l[k]? = some y) (h0 : ∀ r ∈ l.take k, p r) (hy : p y) : ∀ r ∈ l.take (k + 1), p r := fun r hr => by
  rcases (mem_take_succ h r).1 hr with q | q
  · exact h0 r q
  · exact q ▸ hy

def FewTo (l : List Row) (g : List Id) (e : Ending) : Prop := (e = .returned (.bool true) ∧ Few l g) ∨ (e = .returned (.bool false) ∧ ¬ Few l g)
set_option maxRecDepth 100000 in
theorem few_c (w : World) (a : Option Addr) (cap : Nat) (l : List Row) (a2 : Option Addr) (cap2 : Nat) (g : List Id) (hl : l.length ≤ 9223372036854775807) (h : AtL w a 83 rowC l) :
    Calls Try.prog 20 #[.slice a l.length cap, .slice a2 g.length cap2] w fun e w' => FewTo l g e ∧ w = w' := by
  have H := Lib.hid h
  clear h
  go_enter Try.func20, Try.ntmps20
  go_wp2
  go_loop [5] (fun i => ∃ k : Nat, i = .int .i64 k ∧ k ≤ l.length ∧ ∀ r ∈ l.take k, r.refs.length ≤ 30) (fun i => l.length - (intOf i).toNat)
  case atStart => exact ⟨0, rfl, Nat.zero_le _, by simp⟩
  case round =>
    obtain ⟨k, rfl, hk, hno⟩ := hrel
    have HNO := Lib.hid hno
    clear hno
    by_cases hlt : k < l.length
    · obtain ⟨r, hr⟩ : ∃ r, l[k]? = some r := ⟨_, List.getElem?_eq_getElem hlt⟩
      obtain ⟨b, o, rfl, hrr⟩ := H.out.get hr
      have hc : w.cell? ⟨b, o + k * 83 + 50, none⟩ = some (.slice r.ra r.refs.length r.rc) := hrr 50 _ (rowC_refs r)
      have HR := Lib.hid hr
      have HLT := Lib.hid hlt
      clear hrr hr
      by_cases hn : r.refs.length ≤ 30
      · have h1 : (r.refs.length : Int) ≤ 30 := by omega
        have HN := Lib.hid hn
        clear hn
        go_wp2
        go_round
        case rel => exact ⟨k + 1, by go_num, by have := HLT.out; omega, forall_take_succ HR.out HNO.out HN.out⟩
        case measure => have := HLT.out; simp [intOf]; omega
      · have h1 : (30 : Int) < (r.refs.length : Int) := by omega
        have HN := Lib.hid hn
        clear hn
        go_wp2
        go_ret
        exact ⟨.inr ⟨rfl, fun hf => HN.out (hf.1 r (List.mem_of_getElem? HR.out))⟩, rfl⟩
    · obtain rfl : k = l.length := by omega
      rw [List.take_length] at HNO
      by_cases h3 : l.length ≤ 30
      · have h3' : (l.length : Int) ≤ 30 := by omega
        by_cases h4 : g.length ≤ 30
        · have h4' : (g.length : Int) ≤ 30 := by omega
          have HX : Hid (Few l g) := ⟨HNO.out, h3, h4⟩
          clear h3 h4
          go_wp2
          go_ret
          exact ⟨.inl ⟨rfl, HX.out⟩, rfl⟩
        · have h4' : ¬ (g.length : Int) ≤ 30 := by omega
          have HX : Hid (¬ Few l g) := fun hf => h4 hf.2.2
          clear h3 h4
          go_wp2
          go_ret
          exact ⟨.inr ⟨rfl, HX.out⟩, rfl⟩
      · have h3' : ¬ (l.length : Int) ≤ 30 := by omega
        have HX : Hid (¬ Few l g) := fun hf => h3 hf.2.1
        clear h3
        go_wp2
        go_ret
        exact ⟨.inr ⟨rfl, HX.out⟩, rfl⟩

def RowGood (r : Row) : Prop := 0 ≤ r.date ∧ r.date ≤ 105190559 ∧ r.refs.length ≤ 20
def Good (l : List Row) : Prop := l.length ≤ 4096 ∧ (∀ r ∈ l, RowGood r) ∧ (l.map (·.id)).Nodup
def ChkTo (l : List Row) (e : Ending) : Prop := (e = .returned (.int .i64 0) ∧ Good l) ∨ ∃ c : Int, e = .returned (.int .i64 c) ∧ (c == 0) = false ∧ ¬ Good l
theorem nodup_take_succ {l : List Row} {k : Nat} {r : Row} (h : l[k]? = some r) (h0 : ((l.take k).map (·.id)).Nodup) (hn : rowIx (l.take k) r.id = none) : ((l.take (k + 1)).map (·.id)).Nodup := by
  rw [List.take_add_one, h]
  simp only [Option.toList_some, List.map_append, List.map_cons, List.map_nil]
  refine List.nodup_append.2 ⟨h0, by simp, fun a ha b hb e => ?_⟩
  simp at hb
  subst hb
  obtain ⟨y, hy, e2⟩ := List.mem_map.1 ha
  exact rowIx_none.1 hn y hy (e2.trans e)
theorem nodup_row_ne {l : List Row} (hn : (l.map (·.id)).Nodup) {k : Nat} {r : Row} (h : l[k]? = some r) : rowIx (l.take k) r.id = none := by
  rw [rowIx_none]
  intro y hy e
  obtain ⟨j, hj⟩ := List.getElem?_of_mem hy
  rw [List.getElem?_take] at hj
  split at hj
  · rename_i hjk
    have h1 : (l.map (·.id))[j]? = some y.id := by rw [List.getElem?_map, hj]; rfl
    have h2 : (l.map (·.id))[k]? = some r.id := by rw [List.getElem?_map, h]; rfl
    obtain ⟨a1, a2⟩ := List.getElem?_eq_some_iff.1 h1
    obtain ⟨b1, b2⟩ := List.getElem?_eq_some_iff.1 h2
    have := (List.getElem_inj hn).1 (a2.trans (e.trans b2.symm))
    omega
  · cases hj

set_option maxRecDepth 100000 in
set_option maxHeartbeats 1000000 in
theorem check_c (w : World) (a : Option Addr) (cap : Nat) (l : List Row) (hl : l.length ≤ 1000000) (hcap : l.length ≤ cap) (h : AtL w a 83 rowC l) :
    Calls Try.prog 21 #[.slice a l.length cap] w fun e w' => ChkTo l e ∧ Fr Non w w' := by
  by_cases h4 : l.length ≤ 4096
  · have h4' : (l.length : Int) ≤ 4096 := by omega
    have H := Lib.hid h
    have HL := Lib.hid h4
    clear h hl h4
    go_enter Try.func21, Try.ntmps21
    go_wp2
    go_loopw [3] (fun i wr => ∃ k : Nat, i = .int .i64 k ∧ k ≤ l.length ∧ (∀ r ∈ l.take k, RowGood r) ∧ ((l.take k).map (·.id)).Nodup ∧ Fr Non w wr) (fun i _ => l.length - (intOf i).toNat)
    case atStart => exact ⟨0, rfl, Nat.zero_le _, by simp, by simp, Fr.refl _ _⟩
    case round =>
      obtain ⟨k, rfl, hk, hg, hd, hF⟩ := hrel
      have HG := Lib.hid hg
      have HD := Lib.hid hd
      have HF := Lib.hid hF
      clear hg hd hF
      by_cases hlt : k < l.length
      · obtain ⟨r, hr⟩ : ∃ r, l[k]? = some r := ⟨_, List.getElem?_eq_getElem hlt⟩
        obtain ⟨b, o, rfl, hrr⟩ := (H.out.non HF.out).get hr
        have hc1 : wr.cell? ⟨b, o + k * 83 + 48, none⟩ = some (.int .i64 r.date) := hrr 48 _ (rowC_date r)
        have hc : wr.cell? ⟨b, o + k * 83 + 50, none⟩ = some (.slice r.ra r.refs.length r.rc) := hrr 50 _ (rowC_refs r)
        have HRI := Lib.hid (show wr.drew.rangeAt b (o + k * 83) (idC r.id) from idC_of_row hrr)
        have HR := Lib.hid hr
        have HM := Lib.hid (List.mem_of_getElem? hr)
        have hk9 : (k : Int) ≤ 4096 := by omega
        have HLT := Lib.hid hlt
        have hkc : k ≤ cap := by omega
        have hc0 : 0 < cap := by omega
        have hlen : (l.take k).length = k := by rw [List.length_take]; omega
        have hrow := row_c wr.drew (some ⟨b, o, none⟩) cap (l.take k) r.id (by omega) ((H.out.non HF.out.drew).take k)
        rw [hlen] at hrow
        have HROW := Lib.hid hrow
        clear hrr hr hlen hrow
        by_cases d0 : r.date < 0
        · have HB : Hid (¬ Good l) := fun hh => by have := (hh.2.1 r HM.out).1; omega
          go_wp2
          go_ret
          exact ⟨.inr ⟨13, rfl, rfl, HB.out⟩, HF.out⟩
        · by_cases d1 : 105190559 < r.date
          · have HB : Hid (¬ Good l) := fun hh => by have := (hh.2.1 r HM.out).2.1; omega
            go_wp2
            go_ret
            exact ⟨.inr ⟨13, rfl, rfl, HB.out⟩, HF.out⟩
          · by_cases d2 : (20 : Int) < (r.refs.length : Int)
            · have HB : Hid (¬ Good l) := fun hh => by have := (hh.2.1 r HM.out).2.2; omega
              go_wp2
              go_ret
              exact ⟨.inr ⟨9, rfl, rfl, HB.out⟩, HF.out⟩
            · have HRG : Hid (RowGood r) := ⟨by omega, by omega, by omega⟩
              go_wp2_with fail
              refine rc (fun W : World => W.rangeAt b (o + k * 83) (idC r.id)) 8 (by kernel_rfl) ?_
              have hS : (fun W : World => W.rangeAt b (o + k * 83) (idC r.id)) wr.drew := HRI.out
              refine tp (i := 0) (v := .slice (some ⟨b, o, none⟩) l.length cap) rfl (by kernel_rfl) (fun _ _ _ h => h) rfl (fun W0 => r_move rfl rfl) (.inr hS) ?_
              simp only [Act.put, List.setIfInBounds_toArray, List.set_cons_zero, List.set_cons_succ]
              refine tp (i := 1) (v := .int .i64 (k : Int)) rfl (by kernel_rfl) (fun _ _ _ h => h) rfl (fun W0 => r_move rfl rfl) (.inr hS) ?_
              simp only [Act.put, List.setIfInBounds_toArray, List.set_cons_zero, List.set_cons_succ]
              refine tp (i := 2) (v := .slice (some ⟨b, o, none⟩) k cap) rfl (by kernel_rfl) (fun _ _ _ h => h) rfl (fun W0 => by unfold RunV; go_simp) (.inr hS) ?_
              simp only [Act.put, List.setIfInBounds_toArray, List.set_cons_zero, List.set_cons_succ]
              refine tp (i := 3) (v := .slice (some ⟨b, o, none⟩) l.length cap) rfl (by kernel_rfl) (fun _ _ _ h => h) rfl (fun W0 => r_move rfl rfl) (.inr hS) ?_
              simp only [Act.put, List.setIfInBounds_toArray, List.set_cons_zero, List.set_cons_succ]
              refine tp (i := 4) (v := .int .i64 (k : Int)) rfl (by kernel_rfl) (fun _ _ _ h => h) rfl (fun W0 => r_move rfl rfl) (.inr hS) ?_
              simp only [Act.put, List.setIfInBounds_toArray, List.set_cons_zero, List.set_cons_succ]
              refine tp (i := 5) (v := .pointer (some ⟨b, o + k * 83, none⟩)) rfl (by kernel_rfl) (fun _ _ _ h => h) rfl (fun W0 => by unfold RunV; go_simp) (.inr hS) ?_
              simp only [Act.put, List.setIfInBounds_toArray, List.set_cons_zero, List.set_cons_succ]
              refine tp (i := 6) (v := .pointer (some ⟨b, o + k * 83, none⟩)) rfl (by kernel_rfl) (fun _ _ _ h => h) rfl (fun W0 => by unfold RunV; go_simp) (.inr hS) ?_
              simp only [Act.put, List.setIfInBounds_toArray, List.set_cons_zero, List.set_cons_succ]
              refine tc (i := 7) (v := .agg (idC r.id).toArray) rfl 8 (by kernel_rfl) (fun _ _ _ h => h) rfl (fun W0 hw => r_load (b := b) (i := o + k * 83) rfl rfl hw Try.underlying31 rfl (by rw [sz31, idC_length])) hS ?_
              simp only [Act.put, List.setIfInBounds_toArray, List.set_cons_zero, List.set_cons_succ]
              clear hS
              refine oc4 (i := 8) rfl (by kernel_rfl) rfl (by kernel_rfl) ?_
              unfold Oper.wp
              go_simp
              refine HROW.out.mono ?_
              rintro e w5 ⟨rfl, hF5⟩
              have HF5 := Lib.hid hF5
              clear hF5
              refine tp (i := 9) (v := .bool (decide (0 ≤ ixI (rowIx (l.take k) r.id)))) rfl (by kernel_rfl) (fun _ _ _ h => h) rfl (fun W0 => by unfold RunV; go_simp) (.inl (by kernel_rfl)) ?_
              simp only [Act.put, List.setIfInBounds_toArray, List.set_cons_zero, List.set_cons_succ]
              refine dc (by kernel_rfl) ?_
              cases hx : rowIx (l.take k) r.id with
                  | none =>
                    have HNX := Lib.hid hx
                    clear hx
                    rw [show decide (0 ≤ ixI none) = false from rfl]
                    go_wp2
                    go_roundw
                    case rel => exact ⟨k + 1, by go_num, by have := HLT.out; omega, forall_take_succ HR.out HG.out HRG.out, nodup_take_succ HR.out HD.out HNX.out, HF.out.drew.trans HF5.out (fun _ _ h => h)⟩
                    case measure => have := HLT.out; simp [intOf] <;> omega
                  | some j =>
                    have HB : Hid (¬ Good l) := fun hh => by
                      have := nodup_row_ne hh.2.2 HR.out
                      rw [hx] at this; cases this
                    clear hx
                    rw [show decide (0 ≤ ixI (some j)) = true from decide_eq_true (by show (0 : Int) ≤ (j : Int); omega)]
                    go_wp2
                    go_ret
                    exact ⟨.inr ⟨7, rfl, rfl, HB.out⟩, HF.out.drew.trans HF5.out (fun _ _ h => h)⟩
      · obtain rfl : k = l.length := by omega
        rw [List.take_length] at HG HD
        go_wp2
        go_ret
        exact ⟨.inl ⟨rfl, HL.out, HG.out, HD.out⟩, HF.out⟩
  · have h4' : ¬ (l.length : Int) ≤ 4096 := by omega
    have HB : Hid (¬ Good l) := fun hh => h4 hh.1
    clear h hl h4
    go_enter Try.func21, Try.ntmps21
    go_wp2
    go_ret
    exact ⟨.inr ⟨9, rfl, rfl, HB.out⟩, Fr.refl _ _⟩

def untilI (d : Int) : Int := wrap64 (d + 2880)
set_option maxRecDepth 100000 in
theorem Until_c (w : World) (r : Row) (h0 : 0 ≤ r.date) (h1 : r.date ≤ 105190559) :
    Calls Try.prog 78 #[.agg (rowC r).toArray] w fun e w' => e = .returned (.int .i64 (r.date + 2880)) ∧ Fr Non w w' := by
  have hF1 : Fr Non w (w.alloc (.cells (rowC r).toArray 36)) := (Fr.refl _ w).alloc _
  have hc : (w.alloc (.cells (rowC r).toArray 36)).cell? ⟨w.heap.size, 48, none⟩ = some (.int .i64 r.date) := cellOf (heap_alloc_new w _) 48 (by simpa using rowC_date r)
  have HF1 := Lib.hid hF1
  clear hF1
  go_enter Try.func78, Try.ntmps78
  go_wp2_with (first
    | (guard_target =~ wpList _ _ _ (⟨_, Op.box 36 _, _, _, _, _⟩ :: _) _ _; refine wl rfl (r_boxA (cs := (rowC r).toArray) rfl rfl) ?_; generalize w.alloc (.cells (rowC r).toArray 36) = w1 at *)
    | fail)
  go_ret
  exact ⟨rfl, HF1.out⟩
end Go.Proofs.Ytfemaeacmnhdlaa
