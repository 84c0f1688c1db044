/-
  decide: makes the maps and the closure.
-/
import Derived.Test.YtfemaeacmnhdlaaV6
import Derived.Laws.EntriesVeiled
namespace Go.Proofs.Ytfemaeacmnhdlaa
open Go.RowKit

/-- the row with an identity -/
def rowsOf (l : List Row) (x : Id) : Option Row := l.find? fun r => decide (r.id = x)
theorem rowsOf_mem {l : List Row} {x : Id} {r : Row} (h : rowsOf l x = some r) : r ∈ l ∧ r.id = x := by
  unfold rowsOf at h
  exact ⟨List.mem_of_find?_eq_some h, by simpa using List.find?_some h⟩
theorem rowsOf_none {l : List Row} {x : Id} : rowsOf l x = none ↔ ∀ r ∈ l, r.id ≠ x := by
  unfold rowsOf
  rw [List.find?_eq_none]
  simp
theorem rowsOf_self {l : List Row} (hn : (l.map (·.id)).Nodup) {r : Row} (h : r ∈ l) : rowsOf l r.id = some r := by
  induction l with
  | nil => cases h
  | cons y t ih =>
    simp only [List.map_cons, List.nodup_cons] at hn
    unfold rowsOf
    rw [List.find?_cons]
    rcases List.mem_cons.1 h with rfl | h
    · simp
    · have : y.id ≠ r.id := fun e => hn.1 (e ▸ List.mem_map_of_mem (f := (·.id)) h)
      simp only [this, decide_false]
      exact ih hn.2 h
def RowsRep (lr : List (Id × Row)) (l : List Row) : Prop := ∀ x, aget x lr = rowsOf l x
theorem RowsRep.put {lr : List (Id × Row)} {l : List Row} (h : RowsRep lr l) (r : Row) (hn : rowIx l r.id = none) : RowsRep (aput r.id r lr) (l ++ [r]) := fun x => by
  rw [aget_aput, h x]
  unfold rowsOf
  rw [List.find?_append]
  by_cases e : x = r.id
  · subst e
    rw [if_pos rfl]
    have : l.find? (fun y => decide (y.id = r.id)) = none := by
      rw [List.find?_eq_none]
      intro y hy
      have := rowIx_none.1 hn y hy
      simpa using this
    rw [this]; simp
  · rw [if_neg e]
    have : decide (r.id = x) = false := decide_eq_false (fun h => e h.symm)
    simp [List.find?_cons, this]

def RefsAt (w : World) (l : List Row) : Prop := ∀ r ∈ l, AtL w r.ra 32 idC r.refs
theorem RefsAt.non {w w' : World} {l : List Row} (h : RefsAt w l) (hf : Fr Non w w') : RefsAt w' l := fun r hr => (h r hr).non hf

theorem world5 (w : World) (now : Int) : ∃ w5, ((((w.alloc (.cells #[.int .i64 now] 3)).alloc (.map #[] 0)).alloc (.map #[] 0)).alloc (.cells #[.map (some (w.heap.size + 1))] 152)).alloc (.cells #[.map (some (w.heap.size + 1 + 1))] 96) = w5 ∧ w5.heap[w.heap.size]? = some (.cells #[.int .i64 now] 3) ∧ MapAt w5 (w.heap.size + 1) idK rowV [] ∧ MapAt w5 (w.heap.size + 1 + 1) idK Value.bool [] ∧
    w5.heap[w.heap.size + 1 + 1 + 1]? = some (.cells #[.map (some (w.heap.size + 1))] 152) ∧ w5.heap[w.heap.size + 1 + 1 + 1 + 1]? = some (.cells #[.map (some (w.heap.size + 1 + 1))] 96) ∧ Fr Non w w5 := by
  refine ⟨_, rfl, ?_, ?_, ?_, ?_, ?_, (((((Fr.refl Non w).alloc _).alloc _).alloc _).alloc _).alloc _⟩
  · exact (((((Fr.refl Non _).alloc _).alloc _).alloc _).alloc _).keep (heap_alloc_new w _) (fun h => h)
  · have := (MapAt.made (w.alloc (.cells #[.int .i64 now] 3)) idK rowV).fr (S := Non) ((((Fr.refl Non _).alloc (.map #[] 0)).alloc (.cells #[.map (some (w.heap.size + 1))] 152)).alloc (.cells #[.map (some (w.heap.size + 1 + 1))] 96)) (fun h => h)
    simpa using this
  · have := (MapAt.made ((w.alloc (.cells #[.int .i64 now] 3)).alloc (.map #[] 0)) idK Value.bool).fr (S := Non) (((Fr.refl Non _).alloc (.cells #[.map (some (w.heap.size + 1))] 152)).alloc (.cells #[.map (some (w.heap.size + 1 + 1))] 96)) (fun h => h)
    simpa using this
  · have := ((Fr.refl Non _).alloc (.cells #[.map (some (w.heap.size + 1 + 1))] 96)).keep (heap_alloc_new (((w.alloc (.cells #[.int .i64 now] 3)).alloc (.map #[] 0)).alloc (.map #[] 0)) (.cells #[.map (some (w.heap.size + 1))] 152)) (fun h => h)
    simpa using this
  · have := heap_alloc_new ((((w.alloc (.cells #[.int .i64 now] 3)).alloc (.map #[] 0)).alloc (.map #[] 0)).alloc (.cells #[.map (some (w.heap.size + 1))] 152)) (.cells #[.map (some (w.heap.size + 1 + 1))] 96)
    simpa using this

theorem world3 (w : World) (cs : Array Value) : MapAt (((w.alloc (.map #[] 0)).alloc (.cells #[.map (some w.heap.size)] 99)).alloc (.cells cs 127)) w.heap.size idK intV [] ∧
    (((w.alloc (.map #[] 0)).alloc (.cells #[.map (some w.heap.size)] 99)).alloc (.cells cs 127)).heap[w.heap.size + 1]? = some (.cells #[.map (some w.heap.size)] 99) ∧
    (((w.alloc (.map #[] 0)).alloc (.cells #[.map (some w.heap.size)] 99)).alloc (.cells cs 127)).heap[w.heap.size + 1 + 1]? = some (.cells cs 127) ∧
    Fr Non w (((w.alloc (.map #[] 0)).alloc (.cells #[.map (some w.heap.size)] 99)).alloc (.cells cs 127)) := by
  refine ⟨(MapAt.made w idK intV).fr (S := Non) (((Fr.refl Non _).alloc _).alloc _) (fun h => h), ?_, ?_, (((Fr.refl Non w).alloc _).alloc _).alloc _⟩
  · have := ((Fr.refl Non _).alloc (.cells cs 127)).keep (heap_alloc_new (w.alloc (.map #[] 0)) (.cells #[.map (some w.heap.size)] 99)) (fun h => h)
    simpa using this
  · have := heap_alloc_new ((w.alloc (.map #[] 0)).alloc (.cells #[.map (some w.heap.size)] 99)) (.cells cs 127)
    simpa using this

def DecTo (w w' : World) (e : Ending) (l : List Row) (g : List Id) (now : Int) : Prop := ∃ b13 b7 b14 b8 b5 ms mr ml lr,
  e = .returned (.func (.func 107) #[] #[.pointer (some ⟨b13, 0, none⟩), .pointer (some ⟨b7, 0, none⟩), .pointer (some ⟨b14, 0, none⟩), .pointer (some ⟨b8, 0, none⟩), .pointer (some ⟨b5, 0, none⟩)]) ∧
  Env w' b13 b7 b14 b8 b5 ms mr ml (rowsOf l) (fun x => decide (x ∈ g)) now lr ∧ MapAt w' ms idK intV [] ∧ lr.length ≤ l.length ∧ Fr Non w w' ∧ w.heap.size ≤ ms

set_option maxRecDepth 100000 in
set_option maxHeartbeats 1000000 in
theorem decide_c (w : World) (a : Option Addr) (cap : Nat) (l : List Row) (ga : Option Addr) (gc : Nat) (g : List Id) (now : Int) (hg : Good l) (hgl : g.length ≤ 1000000) (h : AtL w a 83 rowC l) (hr : RefsAt w l) (h2 : AtL w ga 32 idC g) :
    Calls Try.prog 84 #[.slice a l.length cap, .slice ga g.length gc, .int .i64 now] w fun e w' => DecTo w w' e l g now := by
  have hmm := @run_makeMap Try.prog
  have hmf : ∀ (fn : Fn) (first cap : Array Value) (w : World), (Instr.makeFunc fn first cap).run Try.prog w = .ok (.func fn first cap) w := fun _ _ _ _ => rfl
  have hl : l.length ≤ 4096 := hg.1
  have HL := Lib.hid hl
  have HG := Lib.hid hg
  have HGL := Lib.hid hgl
  have H := Lib.hid h
  have H2 := Lib.hid h2
  have HR := Lib.hid hr
  obtain ⟨w5, hw5, q0, q1, q2, q3, q4, hF5⟩ := world5 w now
  have HQ := Lib.hid (And.intro q0 (And.intro q1 (And.intro q2 (And.intro q3 q4))))
  have HF5 := Lib.hid hF5
  have HW5 := Lib.hid hw5
  clear hg hgl h h2 hr hl hw5 q0 q1 q2 q3 q4 hF5
  go_enter Try.func84, Try.ntmps84
  go_wp2
  rw [HW5.out]
  clear HW5
  go_loopw [19] (fun i wr => ∃ k : Nat, i = .int .i64 k ∧ k ≤ l.length ∧ ∃ lr, MapAt wr (w.heap.size + 1) idK rowV lr ∧ RowsRep lr (l.take k) ∧ lr.length ≤ k ∧ Fr (· = w.heap.size + 1) w5 wr) (fun i _ => l.length - (intOf i).toNat)
  case atStart => exact ⟨0, rfl, Nat.zero_le _, [], HQ.out.2.1, fun x => rfl, Nat.le_refl _, Fr.refl _ _⟩
  case round =>
    obtain ⟨k, rfl, hk, lr, hmr, hrep, hlr, hF⟩ := hrel
    have HMR := Lib.hid hmr
    have HREP := Lib.hid hrep
    have HLR := Lib.hid hlr
    have HF := Lib.hid hF
    have HFn : Hid (Fr Non w wr) := HF5.out.trans hF (fun i hi e => by have e' : i = w.heap.size + 1 := e; omega)
    clear hmr hrep hlr hF
    by_cases hlt : k < l.length
    · obtain ⟨r, hr⟩ : ∃ r, l[k]? = some r := ⟨_, List.getElem?_eq_getElem hlt⟩
      obtain ⟨b, o, rfl, hrr⟩ := (H.out.non HFn.out).get hr
      have HRR := Lib.hid hrr
      have hk9 : (k : Int) ≤ 4096 := by have := HL.out; omega
      have hb3 := heap_alloc_new wr (.cells (rowC r).toArray 36)
      have hF3 : Fr Non wr (wr.alloc (.cells (rowC r).toArray 36)) := (Fr.refl _ wr).alloc _
      obtain ⟨w3, hw3⟩ : ∃ w3, wr.alloc (.cells (rowC r).toArray 36) = w3 := ⟨_, rfl⟩
      rw [hw3] at hb3 hF3
      have x7 : w3.cell? ⟨w.heap.size + 1 + 1 + 1, 0, none⟩ = some (.map (some (w.heap.size + 1))) := cellOf (hF3.keep (HF.out.keep HQ.out.2.2.2.1 (fun e => by have e' : w.heap.size + 1 + 1 + 1 = w.heap.size + 1 := e; omega)) (fun h => h)) 0 rfl
      have HID := Lib.hid (idC_box hb3)
      have HB3 := Lib.hid (rangeAt_of hb3 0 (rowC r) (by simp))
      have hnone := nodup_row_ne HG.out.2.2 hr
      obtain ⟨ob, hup, hmap⟩ := run_update (P := Try.prog) (t := 152) (HMR.out.fr hF3 (fun h => h)) keyId Try.underlying152 r.id r
      have hFo : Fr (· = w.heap.size + 1) w3 (w3.putObj (w.heap.size + 1) ob) := (Fr.refl _ _).putObj _ _ (fun _ => rfl)
      have HUP := Lib.hid hup
      have HMAP := Lib.hid hmap
      have HF4 : Hid (Fr (· = w.heap.size + 1) w5 (w3.putObj (w.heap.size + 1) ob)) := (HF.out.trans (hF3.mono (T := (· = w.heap.size + 1)) (fun _ _ h => h.elim)) (fun _ _ e => e)).trans hFo (fun _ _ e => e)
      have HRP := Lib.hid (HREP.out.put r hnone)
      have HLT := Lib.hid hlt
      have HRE := Lib.hid hr
      clear hrr hr hb3 hF3 hnone hup hmap hFo
      go_wp2_with (first
        | (guard_target =~ wpList _ _ _ (⟨some 22, Op.load 36 _, _, _, _, _⟩ :: _) _ _; refine wl rfl (r_load (b := b) (i := o + k * 83) rfl rfl HRR.out Try.underlying36 rfl (by rw [sz36, rowC_length])) ?_)
        | (guard_target =~ wpList _ _ _ (⟨_, Op.alloc 36, _, _, _, _⟩ :: _) _ _; refine wl rfl (r_allocA rfl (zero36 _)) ?_)
        | (guard_target =~ wpList _ _ _ (⟨_, Op.store 36 _ _, _, _, _, _⟩ :: _) _ _; refine wu rfl (r_store_new (c' := (rowC r).toArray) rfl rfl rfl (by rw [sz36]; simp [rowC_length]) (by simp [rowC_length]) (all_oneCell_toArray (rowC_one r))) ?_; rw [hw3])
        | (guard_target =~ wpList _ _ _ (⟨_, Op.load 31 _, _, _, _, _⟩ :: _) _ _; refine wl rfl (r_load (b := wr.heap.size) (i := 0) rfl rfl HID.out Try.underlying31 rfl (by rw [sz31, idC_length])) ?_)
        | (guard_target =~ wpList _ _ _ (⟨some 26, Op.load 36 _, _, _, _, _⟩ :: _) _ _; refine wl rfl (r_load (b := wr.heap.size) (i := 0) rfl rfl HB3.out Try.underlying36 rfl (by rw [sz36, rowC_length])) ?_)
        | (guard_target =~ wpList _ _ _ (⟨_, Op.mapUpdate _ _ _ _, _, _, _, _⟩ :: _) _ _; refine wu rfl (r_mapUpdate rfl rfl rfl rfl HUP.out) ?_; generalize w3.putObj (w.heap.size + 1) ob = w4 at *)
        | fail)
      go_roundw
      case rel => exact ⟨k + 1, by go_num, by have := HLT.out; omega, _, HMAP.out, by rw [List.take_add_one, HRE.out]; exact HRP.out, by have := length_aput r.id r lr; have := HLR.out; omega, HF4.out⟩
      case measure => have := HLT.out; simp [intOf] <;> omega
    · obtain rfl : k = l.length := by omega
      rw [List.take_length] at HREP
      have HM2 : Hid (MapAt wr (w.heap.size + 1 + 1) idK Value.bool []) := HQ.out.2.2.1.fr HF.out (fun e => by have e' : w.heap.size + 1 + 1 = w.heap.size + 1 := e; omega)
      have HQ' : Hid (wr.heap[w.heap.size]? = some (.cells #[.int .i64 now] 3) ∧ wr.heap[w.heap.size + 1 + 1 + 1]? = some (.cells #[.map (some (w.heap.size + 1))] 152) ∧ wr.heap[w.heap.size + 1 + 1 + 1 + 1]? = some (.cells #[.map (some (w.heap.size + 1 + 1))] 96)) :=
        ⟨HF.out.keep HQ.out.1 (fun e => by have e' : w.heap.size = w.heap.size + 1 := e; omega), HF.out.keep HQ.out.2.2.2.1 (fun e => by have e' : w.heap.size + 1 + 1 + 1 = w.heap.size + 1 := e; omega), HF.out.keep HQ.out.2.2.2.2 (fun e => by have e' : w.heap.size + 1 + 1 + 1 + 1 = w.heap.size + 1 := e; omega)⟩
      obtain ⟨wo, rfl⟩ : ∃ wo : World, wo = wr := ⟨_, rfl⟩
      go_wp2
      go_loopw [30] (fun i wr => ∃ k : Nat, i = .int .i64 k ∧ k ≤ g.length ∧ ∃ s, MapAt wr (w.heap.size + 1 + 1) idK Value.bool s ∧ SetOf s (g.take k) ∧ Fr (· = w.heap.size + 1 + 1) wo wr) (fun i _ => g.length - (intOf i).toNat)
      case atStart => exact ⟨0, rfl, Nat.zero_le _, [], HM2.out, fun x => by simp [aget], Fr.refl _ _⟩
      case round =>
        obtain ⟨k, rfl, hk, s, hs, hset, hFq⟩ := hrel
        have HS := Lib.hid hs
        have HSET := Lib.hid hset
        have HFq := Lib.hid hFq
        have HFnq : Hid (Fr Non w wr) := HFn.out.trans hFq (fun i hi e => by have e' : i = w.heap.size + 1 + 1 := e; omega)
        clear hs hset hFq
        by_cases hlt : k < g.length
        · obtain ⟨x, hx⟩ : ∃ x, g[k]? = some x := ⟨_, List.getElem?_eq_getElem hlt⟩
          obtain ⟨b, o, rfl, hrr⟩ := (H2.out.non HFnq.out).get hx
          have HRR := Lib.hid hrr
          have hk9 : (k : Int) ≤ 1000000 := by have := HGL.out; omega
          have hb3 := heap_alloc_new wr (.cells (idC x).toArray 31)
          have hF3 : Fr Non wr (wr.alloc (.cells (idC x).toArray 31)) := (Fr.refl _ wr).alloc _
          obtain ⟨w3, hw3⟩ : ∃ w3, wr.alloc (.cells (idC x).toArray 31) = w3 := ⟨_, rfl⟩
          rw [hw3] at hb3 hF3
          have x8 : w3.cell? ⟨w.heap.size + 1 + 1 + 1 + 1, 0, none⟩ = some (.map (some (w.heap.size + 1 + 1))) := cellOf (hF3.keep (HFq.out.keep HQ'.out.2.2 (fun e => by have e' : w.heap.size + 1 + 1 + 1 + 1 = w.heap.size + 1 + 1 := e; omega)) (fun h => h)) 0 rfl
          have HID := Lib.hid (rangeAt_of hb3 0 (idC x) (by simp))
          obtain ⟨ob, hup, hmap⟩ := run_update (P := Try.prog) (t := 96) (HS.out.fr hF3 (fun h => h)) keyId Try.underlying96 x true
          have hFo : Fr (· = w.heap.size + 1 + 1) w3 (w3.putObj (w.heap.size + 1 + 1) ob) := (Fr.refl _ _).putObj _ _ (fun _ => rfl)
          have HUP := Lib.hid hup
          have HMAP := Lib.hid hmap
          have HF4 : Hid (Fr (· = w.heap.size + 1 + 1) wo (w3.putObj (w.heap.size + 1 + 1) ob)) := (HFq.out.trans (hF3.mono (T := (· = w.heap.size + 1 + 1)) (fun _ _ h => h.elim)) (fun _ _ e => e)).trans hFo (fun _ _ e => e)
          have HLT := Lib.hid hlt
          have HXE := Lib.hid hx
          clear hrr hx hb3 hF3 hup hmap hFo
          go_wp2_with (first
            | (guard_target =~ wpList _ _ _ (⟨some 33, Op.load 31 _, _, _, _, _⟩ :: _) _ _; refine wl rfl (r_load (b := b) (i := o + k * 32) rfl rfl HRR.out Try.underlying31 rfl (by rw [sz31, idC_length])) ?_)
            | (guard_target =~ wpList _ _ _ (⟨_, Op.alloc 31, _, _, _, _⟩ :: _) _ _; refine wl rfl (r_allocA rfl (zero31 _)) ?_)
            | (guard_target =~ wpList _ _ _ (⟨_, Op.store 31 _ _, _, _, _, _⟩ :: _) _ _; refine wu rfl (r_store_new (c' := (idC x).toArray) rfl rfl rfl (by rw [sz31]; simp [idC_length]) (by simp [idC_length]) (all_oneCell_toArray (idC_one x))) ?_; rw [hw3])
            | (guard_target =~ wpList _ _ _ (⟨some 35, Op.load 31 _, _, _, _, _⟩ :: _) _ _; refine wl rfl (r_load (b := wr.heap.size) (i := 0) rfl rfl HID.out Try.underlying31 rfl (by rw [sz31, idC_length])) ?_)
            | (guard_target =~ wpList _ _ _ (⟨_, Op.mapUpdate _ _ _ _, _, _, _, _⟩ :: _) _ _; refine wu rfl (r_mapUpdate rfl rfl rfl rfl HUP.out) ?_; generalize w3.putObj (w.heap.size + 1 + 1) ob = w4 at *)
            | fail)
          go_roundw
          case rel => exact ⟨k + 1, by go_num, by have := HLT.out; omega, _, HMAP.out, by rw [List.take_add_one, HXE.out]; exact HSET.out.put x, HF4.out⟩
          case measure => have := HLT.out; simp [intOf] <;> omega
        · obtain rfl : k = g.length := by omega
          rw [List.take_length] at HSET
          go_wp2
          have hw3 := world3 wr #[.func (.func 107) #[] #[.pointer (some ⟨wr.heap.size + 1, 0, none⟩), .pointer (some ⟨w.heap.size + 1 + 1 + 1, 0, none⟩), .pointer (some ⟨wr.heap.size + 1 + 1, 0, none⟩), .pointer (some ⟨w.heap.size + 1 + 1 + 1 + 1, 0, none⟩), .pointer (some ⟨w.heap.size, 0, none⟩)]]
          go_ret
          obtain ⟨g1, g2, g3, g4⟩ := hw3
          have f1 := HFq.out
          have f2 := f1.trans g4 (fun _ _ h => h.elim)
          have hne : ∀ i, i ≠ w.heap.size + 1 + 1 → ¬ (fun x => x = w.heap.size + 1 + 1) i := fun i h e => h e
          have hsz := f1.size
          have hso : w.heap.size + 1 + 1 + 1 + 1 < wo.heap.size := heap_lt HQ'.out.2.2
          refine ⟨wr.heap.size + 1, w.heap.size + 1 + 1 + 1, wr.heap.size + 1 + 1, w.heap.size + 1 + 1 + 1 + 1, w.heap.size, wr.heap.size, w.heap.size + 1, w.heap.size + 1 + 1, lr, rfl, ⟨g2, f2.keep HQ'.out.2.1 (hne _ (by omega)), g3, f2.keep HQ'.out.2.2 (hne _ (by omega)), f2.keep HQ'.out.1 (hne _ (by omega)), ⟨HMR.out.fr f2 (hne _ (by omega)), HREP.out⟩, ⟨s, HS.out.fr g4 (fun h => h), fun x => ?_⟩, fun x r hx => ?_, by omega, by omega⟩, g1, HLR.out, HFnq.out.trans g4 (fun _ _ h => h), by omega⟩
          · rw [HSET.out x]
            by_cases hx : x ∈ g <;> simp [hx]
          · obtain ⟨m1, m2⟩ := rowsOf_mem hx
            exact ⟨m2, HG.out.2.1 r m1, HR.out.non (HFnq.out.trans g4 (fun _ _ h => h)) r m1⟩
end Go.Proofs.Ytfemaeacmnhdlaa
