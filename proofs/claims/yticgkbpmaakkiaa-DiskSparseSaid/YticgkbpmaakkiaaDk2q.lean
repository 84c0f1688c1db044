/-
  Bytes: slices of bytes, the law's function Bytes, bytes.Clone.
-/
import Derived.Test.YticgkbpmaakkiaaDk1q
import Derived.Test.YticgkbpmaakkiaaRegq
import Derived.LoopTactic
import Derived.Laws.MakeOwn
import Derived.Laws.BytesArg
namespace Go.Proofs.Yticgkbpmaakkiaa
open Go.RowKit

def strOf (l : List UInt8) : ByteArray := ⟨l.toArray⟩
theorem strOf_inj {a b : List UInt8} : strOf a = strOf b ↔ a = b := by
  unfold strOf
  constructor
  · intro h; injection h with h; exact List.toArray_inj h
  · rintro rfl; rfl

/-- The slice value sv holds the bytes l. -/
def BytesAt (w : World) (sv : Value) (l : List UInt8) : Prop := ∃ a cap, sv = .slice a l.length cap ∧ (l = [] ∨ ∃ b o, a = some ⟨b, o, none⟩ ∧ w.rangeAt b o (u8s l))

theorem rangeAt_fr {S : Nat → Prop} {w w' : World} (hf : Fr S w w') {b o : Nat} {l : List Value} (h : w.rangeAt b o l) (hn : ¬ S b) : w'.rangeAt b o l := fun j v hv => hf.cell (h j v hv) hn

theorem BytesAt.fr {S : Nat → Prop} {w w' : World} (hf : Fr S w w') {sv : Value} {l : List UInt8} (h : BytesAt w sv l) (hn : ∀ k, sv.ownBlock = some k → ¬ S k) : BytesAt w' sv l := by
  obtain ⟨a, cap, rfl, h | ⟨b, o, rfl, hr⟩⟩ := h
  · exact ⟨a, cap, rfl, .inl h⟩
  · exact ⟨_, cap, rfl, .inr ⟨b, o, rfl, rangeAt_fr hf hr (hn b rfl)⟩⟩

theorem BytesAt.of_block {w : World} {b : Nat} {l : List UInt8} {t : TypeId} (h : w.heap[b]? = some (.cells (u8s l).toArray t)) (n cap : Nat) (hn : n = l.length) : BytesAt w (.slice (some ⟨b, 0, none⟩) n cap) l := by
  subst hn
  exact ⟨_, _, rfl, .inr ⟨b, 0, rfl, rangeAt_of h 0 _ (by simp)⟩⟩

theorem BytesAt.nil (w : World) : BytesAt w (.slice none 0 0) [] := ⟨none, 0, rfl, .inl rfl⟩

/-- string(b) -/
theorem run_str {P : Program} {w : World} {src e dst : TypeId} (hs : P.underlying src = some (.slice e)) (he : P.underlying e = some (.int .u8)) (hd : P.underlying dst = some .string) {sv : Value} {l : List UInt8} (h : BytesAt w sv l) :
    (convert src dst sv).run P w = .ok (.string (strOf l)) w := by
  obtain ⟨a, cap, rfl, h | ⟨b, o, rfl, hr⟩⟩ := h
  · subst h
    cases a with
    | none => rw [run_convert_bytes_nil w src e hs he _ _ dst hd]; rfl
    | some p =>
      rw [run_convert_bytes_string w src dst e _ _ cap hs he hd]
      simp [Conv.bytesToString, loadCells, loadCellsFrom]
      rfl
  · rw [run_convert_bytes_arg w src e hs he b o l.length cap (l.map fun b => (b.toNat : Int)) (by simp) (fun i hi => by
      rw [hr i (.int .u8 (l[i].toNat : Int)) (by simp [u8s, hi])]; simp [hi]) dst hd]
    congr 2
    unfold strOfNums strOf
    simp only [List.map_map]
    congr 2
    conv => rhs; rw [← List.map_id l]
    exact List.map_congr_left fun x _ => by simp

theorem info5 : (Try.prog.info? 5).map (fun i => (i.zero, i.size, i.bytes)) = some (some (.int .u8 0), 1, 1) := by kernel_rfl

def bytesF (f s : UInt8) (i : Nat) : UInt8 := f + UInt8.ofNat i * s
def bytesK (f s : UInt8) (k : Nat) : List UInt8 := (List.range 256).map fun i => if i < k then bytesF f s i else 0
def bytesL (f s : UInt8) : List UInt8 := (List.range 256).map (bytesF f s)
theorem bytesF_val (f s : UInt8) (k : Nat) : ((f.toNat : Int) + k * s.toNat) % 256 = ((bytesF f s k).toNat : Int) := by
  unfold bytesF
  rw [UInt8.toNat_add, UInt8.toNat_mul, UInt8.toNat_ofNat']
  have h1 : (2 : Nat) ^ 8 = 256 := rfl
  rw [h1]
  have h2 : (f.toNat + k % 256 * s.toNat % 256) % 256 = (f.toNat + k * s.toNat) % 256 := by
    rw [Nat.mod_mul_mod, Nat.add_mod_mod]
  rw [h2, Int.natCast_emod, Int.natCast_add, Int.natCast_mul]
  rfl
theorem bytesK_end (f s : UInt8) : bytesK f s 256 = bytesL f s := by
  unfold bytesK bytesL
  refine List.map_congr_left fun i hi => ?_
  rw [if_pos (List.mem_range.1 hi)]
theorem bytesK_length (f s : UInt8) (k : Nat) : (bytesK f s k).length = 256 := by unfold bytesK; rw [List.length_map, List.length_range]
theorem bytesL_length (f s : UInt8) : (bytesL f s).length = 256 := by unfold bytesL; rw [List.length_map, List.length_range]
theorem bytesK_zero (f s : UInt8) : bytesK f s 0 = List.replicate 256 0 := by
  unfold bytesK
  apply List.ext_getElem
  · rw [List.length_map, List.length_range, List.length_replicate]
  · intro i h1 h2; simp only [List.getElem_map, Nat.not_lt_zero, if_false, List.getElem_replicate]
theorem bytesK_succ (f s : UInt8) (k : Nat) : (bytesK f s k).set k (bytesF f s k) = bytesK f s (k + 1) := by
  unfold bytesK
  apply List.ext_getElem
  · simp only [List.length_set, List.length_map]
  · intro i h1 h2
    simp only [List.getElem_set, List.getElem_map, List.getElem_range]
    by_cases h : k = i
    · subst h; simp
    · rw [if_neg h]
      by_cases h' : i < k
      · rw [if_pos h', if_pos (by omega)]
      · rw [if_neg h', if_neg (by omega)]
theorem made_u8 (n : Nat) : madeCells (Value.int .u8 0).cells n = (u8s (List.replicate n 0)).toArray := by
  unfold madeCells u8s
  apply Array.ext'
  simp only [Array.toList_map, Array.toList_range, List.map_replicate]
  apply List.ext_getElem
  · simp only [List.length_map, List.length_range, List.length_replicate]
  · intro i h1 h2
    simp [Value.cells, Nat.mod_one]

theorem run_make256 (w : World) : (Instr.makeSlice 30 (.int .i64 256) (.int .i64 256)).run Try.prog w = .ok (.slice (some ⟨w.heap.size, 0, none⟩) 256 256) (w.alloc (.cells (u8s (List.replicate 256 0)).toArray 5)) := by
  obtain ⟨i, hi, hz, hs, hb⟩ := info_parts info5
  have := run_make (P := Try.prog) w 30 5 i _ Try.underlying30 hi hz .i64 .i64 256 256 (by omega) (by omega) (by rw [hb]; omega) (by omega)
  rw [this, hs]
  rw [show (256 : Int).toNat * 1 = 256 from rfl, made_u8]
  rfl

set_option maxRecDepth 100000 in
theorem Bytes_c (w : World) (f s : UInt8) :
    Calls Try.prog 21 #[.int .u8 f.toNat, .int .u8 s.toNat] w fun e w' => e = .returned (.slice (some ⟨w.heap.size, 0, none⟩) 256 256) ∧ w'.heap[w.heap.size]? = some (.cells (u8s (bytesL f s)).toArray 5) ∧ Fr Non w w' := by
  have hmk := run_make256 w
  have hw1 : (w.alloc (.cells (u8s (List.replicate 256 0)).toArray 5)).heap[w.heap.size]? = some (.cells (u8s (bytesK f s 0)).toArray 5) := by
    rw [bytesK_zero]; exact heap_alloc_new w _
  have hF1 : Fr Non w (w.alloc (.cells (u8s (List.replicate 256 0)).toArray 5)) := (Fr.refl _ w).alloc _
  have H1 := Lib.hid hw1
  clear hw1
  generalize (w.alloc (.cells (u8s (List.replicate 256 0)).toArray 5)) = w1 at *
  generalize hB : w.heap.size = B at *
  have HB := Lib.hid hB
  clear hB
  go_enter Try.func21, Try.ntmps21
  go_wp2
  go_loopw [6] (fun i wr => ∃ k : Nat, k ≤ 256 ∧ i = .int .i64 k ∧ wr.heap[B]? = some (.cells (u8s (bytesK f s k)).toArray 5) ∧ Fr Non w wr) (fun i _ => 256 - (intOf i).toNat)
  case atStart => exact ⟨0, by omega, rfl, H1.out, hF1⟩
  case round =>
    obtain ⟨k, hk, rfl, hb, hF⟩ := hrel
    by_cases hlt : k < 256
    · have hc : wr.cell? ⟨B, k, none⟩ = some (.int .u8 ((bytesK f s k)[k]'(by rw [bytesK_length]; exact hlt)).toNat) := by
        rw [cell_of_row wr B k _ 5 (0, 0) hb]
        simp only [List.getElem?_toArray]
        rw [u8s_get, List.getElem?_eq_getElem (by rw [bytesK_length]; exact hlt)]; rfl
      have hfz := frozenOf hb k
      have hb2 := heap_setCell_at hb k (.int .u8 ((bytesF f s k).toNat : Int))
      have HB2 := Lib.hid hb2
      have HF := Lib.hid hF
      clear hb2 hb hF
      have hval := Lib.hid (bytesF_val f s k)
      go_wp2
      go_roundw
      case rel =>
        refine ⟨k + 1, by omega, by go_num, ?_, HF.out.setCell _ _ (fun h => by have := HB.out; simp at h; omega)⟩
        rw [hval.out, HB2.out]
        congr 2
        rw [← bytesK_succ, ← u8s_set]
        apply Array.ext'
        simp
      case measure => simp [intOf]; omega
    · obtain rfl : k = 256 := by omega
      have hb' := Lib.hid hb
      have HF := Lib.hid hF
      clear hb hF
      go_wp2
      go_ret
      have := hb'.out
      rw [bytesK_end] at this
      exact ⟨rfl, this, HF.out⟩
end Go.Proofs.Yticgkbpmaakkiaa
