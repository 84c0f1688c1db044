/-
  The package's Check, where the set is good.
-/
import Derived.Test.YtfemaeacmnhdlaaV2
namespace Go.Proofs.Ytfemaeacmnhdlaa
open Go.RowKit

theorem zero4 (w : World) : (zeroValue 4).run Try.prog w = .ok (.bool false) w := (zero_of_info (show (Try.prog.info? 4).map (fun i => (i.zero, i.size)) = some (some (.bool false), 1) from by kernel_rfl)).1 w
theorem zero3 (w : World) : (zeroValue 3).run Try.prog w = .ok (.int .i64 0) w := (zero_of_info (show (Try.prog.info? 3).map (fun i => (i.zero, i.size)) = some (some (.int .i64 0), 1) from by kernel_rfl)).1 w
abbrev idK : Id → Value := encB (n := 32)
theorem idC_box {w : World} {g : Nat} {r : Row} {t : TypeId} (h : w.heap[g]? = some (.cells (rowC r).toArray t)) : w.rangeAt g 0 (idC r.id) := fun j v hv => by
  rw [Nat.zero_add]; exact cellOf h j (by rw [List.getElem?_toArray]; exact rowC_id r j v hv)

/-- The set of the first identities. -/
def SetOf (s : List (Id × Bool)) (ids : List Id) : Prop := ∀ x, aget x s = if x ∈ ids then some true else none
theorem SetOf.put {s : List (Id × Bool)} {ids : List Id} (h : SetOf s ids) (x : Id) : SetOf (aput x true s) (ids ++ [x]) := fun y => by
  rw [aget_aput, h y]
  by_cases e : y = x
  · simp [e]
  · simp [e]

set_option maxRecDepth 100000 in
set_option maxHeartbeats 1000000 in
theorem Check_c (w : World) (a : Option Addr) (cap : Nat) (l : List Row) (hg : Good l) (h : AtL w a 83 rowC l) :
    Calls Try.prog 83 #[.slice a l.length cap] w fun e w' => e = .returned (.int .i64 0) ∧ Fr Non w w' := by
  have hl : l.length ≤ 4096 := hg.1
  have h4' : (l.length : Int) ≤ 4096 := by omega
  have H := Lib.hid h
  have HG := Lib.hid hg
  have hm0 := MapAt.made w idK Value.bool
  have hF0 : Fr Non w (w.alloc (.map #[] 0)) := (Fr.refl _ w).alloc _
  obtain ⟨w1, hw1⟩ : ∃ w1, w.alloc (.map #[] 0) = w1 := ⟨_, rfl⟩
  rw [hw1] at hm0 hF0
  have HM0 := Lib.hid hm0
  have HF0 := Lib.hid hF0
  have hmm := @run_makeMap Try.prog
  clear h hg hm0 hF0
  go_enter Try.func83, Try.ntmps83
  go_wp2
  clear hmm hw1
  have HM : Hid (w.heap.size ≤ w.heap.size) := Nat.le_refl _
  go_loopw [12] (fun i wr => ∃ k : Nat, i = .int .i64 k ∧ k ≤ l.length ∧ ∃ s, MapAt wr w.heap.size idK Value.bool s ∧ SetOf s ((l.take k).map (·.id)) ∧ Fr Non w wr) (fun i _ => l.length - (intOf i).toNat)
  case atStart => exact ⟨0, rfl, Nat.zero_le _, [], HM0.out, fun x => by simp [aget], HF0.out⟩
  case round =>
    obtain ⟨k, rfl, hk, s, hs, hset, hF⟩ := hrel
    have HS := Lib.hid hs
    have HSET := Lib.hid hset
    have HF := Lib.hid hF
    clear hs hset hF
    by_cases hlt : k < l.length
    · obtain ⟨r, hr⟩ : ∃ r, l[k]? = some r := ⟨_, List.getElem?_eq_getElem hlt⟩
      obtain ⟨b, o, rfl, hrr⟩ := (H.out.non HF.out).get hr
      have HRR := Lib.hid hrr
      have hb3 := heap_alloc_new wr (.cells (rowC r).toArray 36)
      have hF3 : Fr Non wr (wr.alloc (.cells (rowC r).toArray 36)) := (Fr.refl _ wr).alloc _
      obtain ⟨w3, hw3⟩ : ∃ w3, wr.alloc (.cells (rowC r).toArray 36) = w3 := ⟨_, rfl⟩
      rw [hw3] at hb3 hF3
      have hc1 : w3.cell? ⟨wr.heap.size, 48, none⟩ = some (.int .i64 r.date) := cellOf hb3 48 (by rw [List.getElem?_toArray]; exact rowC_date r)
      have hc : w3.cell? ⟨wr.heap.size, 50, none⟩ = some (.slice r.ra r.refs.length r.rc) := cellOf hb3 50 (by rw [List.getElem?_toArray]; exact rowC_refs r)
      have HID := Lib.hid (idC_box hb3)
      have hgood := HG.out.2.1 r (List.mem_of_getElem? hr)
      have d0 : 0 ≤ r.date := hgood.1
      have d1 : r.date ≤ 105190559 := hgood.2.1
      have d2 : (r.refs.length : Int) ≤ 20 := by have := hgood.2.2; omega
      have hnone : aget r.id s = none := by
        rw [HSET.out r.id, if_neg]
        intro hm
        obtain ⟨y, hy, e⟩ := List.mem_map.1 hm
        exact rowIx_none.1 (nodup_row_ne HG.out.2.2 hr) y hy e
      have hs3 := HS.out.fr hF3 (fun h => h)
      have hlk := run_lookup (P := Try.prog) (t := 96) hs3 keyId Try.underlying96 (zero4 w3) r.id false
      rw [hnone] at hlk
      obtain ⟨ob, hup, hmap⟩ := run_update (P := Try.prog) (t := 96) hs3 keyId Try.underlying96 r.id true
      have hFo : Fr (· = w.heap.size) w3 (w3.putObj w.heap.size ob) := (Fr.refl _ _).putObj _ _ (fun _ => rfl)
      have HLK := Lib.hid hlk
      have HUP := Lib.hid hup
      have HMAP := Lib.hid hmap
      have HF4 : Hid (Fr Non w (w3.putObj w.heap.size ob)) := (HF.out.trans hF3 (fun _ _ h => h)).trans hFo (fun i hi e => by have e' : i = w.heap.size := e; omega)
      have HR := Lib.hid hr
      have HLT := Lib.hid hlt
      clear hrr hr hb3 hF3 hgood hnone hs3 hlk hup hmap hFo
      go_wp2_with (first
        | (guard_target =~ wpList _ _ _ (⟨_, Op.load 36 _, _, _, _, _⟩ :: _) _ _; refine wl rfl (r_load (b := b) (i := o + k * 83) rfl rfl HRR.out Try.underlying36 rfl (by rw [sz36, rowC_length])) ?_)
        | (guard_target =~ wpList _ _ _ (⟨_, Op.alloc 36, _, _, _, _⟩ :: _) _ _; refine wl rfl (r_allocA rfl (zero36 _)) ?_)
        | (guard_target =~ wpList _ _ _ (⟨_, Op.store 36 _ _, _, _, _, _⟩ :: _) _ _; refine wu rfl (r_store_new (c' := (rowC r).toArray) rfl rfl rfl (by rw [sz36]; simp [rowC_length]) (by simp [rowC_length]) (all_oneCell_toArray (rowC_one r))) ?_; rw [hw3])
        | (guard_target =~ wpList _ _ _ (⟨_, Op.load 31 _, _, _, _, _⟩ :: _) _ _; refine wl rfl (r_load (b := wr.heap.size) (i := 0) rfl rfl HID.out Try.underlying31 rfl (by rw [sz31, idC_length])) ?_)
        | (guard_target =~ wpList _ _ _ (⟨_, Op.lookup _ _ _ _, _, _, _, _⟩ :: _) _ _; refine wl rfl (r_lookup rfl rfl rfl HLK.out) ?_; simp only [Option.map_none, Option.getD_none])
        | (guard_target =~ wpList _ _ _ (⟨_, Op.mapUpdate _ _ _ _, _, _, _, _⟩ :: _) _ _; refine wu rfl (r_mapUpdate rfl rfl rfl rfl HUP.out) ?_; generalize w3.putObj w.heap.size ob = w4 at *)
        | fail)
      go_roundw
      case rel => exact ⟨k + 1, by go_num, by have := HLT.out; omega, _, HMAP.out, by rw [List.take_add_one, HR.out, List.map_append]; exact HSET.out.put r.id, HF4.out⟩
      case measure => have := HLT.out; simp [intOf] <;> omega
    · obtain rfl : k = l.length := by omega
      go_wp2
      go_ret
      exact ⟨rfl, HF.out⟩
end Go.Proofs.Ytfemaeacmnhdlaa
