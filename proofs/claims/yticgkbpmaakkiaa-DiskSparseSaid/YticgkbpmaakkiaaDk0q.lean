/-
  The device: its abstract state, how it lies in memory, and the small methods.
-/
import Derived.Test.YticgkbpmaakkiaaProg
import Derived.Test.YticgkbpmaakkiaaArrq
import Derived.WalkKit
import Derived.KernelRfl
import Derived.RegionTactic
import Derived.BigQuiet
import Derived.Deep.QuietTactic
import Derived.Outline
namespace Go.Proofs.Yticgkbpmaakkiaa
open Go.RowKit

/-- The contents of a sector. -/
abbrev Sec := ByteKey 256
def secV (s : Sec) : Value := .agg (u8s s.1).toArray
def zeroSec : Sec := ⟨List.replicate 256 0, List.length_replicate ..⟩

/-- The device's state. -/
structure Dsk where
  n : Int
  dur : Int → Option Sec
  pend : List (Int × Sec)
  ops : Int
  limited : Bool
  limit : Int
  down : Bool

def wcells (x : Int × Sec) : List Value := .int .i64 x.1 :: u8s x.2.1
theorem wcells_length (x : Int × Sec) : (wcells x).length = 257 := by simp [wcells, u8s_length, x.2.2]
def pcells (l : List (Int × Sec)) : List Value := l.flatMap wcells
theorem pcells_length (l : List (Int × Sec)) : (pcells l).length = l.length * 257 := by
  induction l with
  | nil => rfl
  | cons x r ih => simp only [pcells, List.flatMap_cons, List.length_append, wcells_length, List.length_cons] at ih ⊢; omega

def dkCells (D : Dsk) (m : Nat) (pv : Value) : Array Value := #[.int .i64 D.n, .map (some m), pv, .int .i64 D.ops, .bool D.limited, .int .i64 D.limit, .bool D.down]

/-- The device at block p, its map at block m, its slice of pending writes pv. -/
structure DiskAt (w : World) (p m : Nat) (pv : Value) (D : Dsk) : Prop where
  hp : w.heap[p]? = some (.cells (dkCells D m pv) 78)
  hm : ∃ l, MapAt w m (fun n : Int => Value.int .i64 n) secV l ∧ ∀ k, D.dur k = aget k l
  hv : w.ownsRow 0 82 257 pv D.pend.length (pcells D.pend)

theorem DiskAt.cell {w : World} {p m : Nat} {pv : Value} {D : Dsk} (h : DiskAt w p m pv D) :
    w.cell? ⟨p, 0, none⟩ = some (.int .i64 D.n) ∧ w.cell? ⟨p, 1, none⟩ = some (.map (some m)) ∧ w.cell? ⟨p, 2, none⟩ = some pv ∧ w.cell? ⟨p, 3, none⟩ = some (.int .i64 D.ops) ∧
    w.cell? ⟨p, 4, none⟩ = some (.bool D.limited) ∧ w.cell? ⟨p, 5, none⟩ = some (.int .i64 D.limit) ∧ w.cell? ⟨p, 6, none⟩ = some (.bool D.down) :=
  ⟨cellOf h.hp 0 rfl, cellOf h.hp 1 rfl, cellOf h.hp 2 rfl, cellOf h.hp 3 rfl, cellOf h.hp 4 rfl, cellOf h.hp 5 rfl, cellOf h.hp 6 rfl⟩

theorem DiskAt.frozen {w : World} {p m : Nat} {pv : Value} {D : Dsk} (h : DiskAt w p m pv D) (i : Nat) : w.frozen? ⟨p, i, none⟩ = false := frozenOf h.hp i
theorem DiskAt.plt {w : World} {p m : Nat} {pv : Value} {D : Dsk} (h : DiskAt w p m pv D) : p < w.heap.size := heap_lt h.hp
theorem DiskAt.mlt {w : World} {p m : Nat} {pv : Value} {D : Dsk} (h : DiskAt w p m pv D) : m < w.heap.size := by obtain ⟨l, hl, _⟩ := h.hm; exact hl.lt
theorem DiskAt.mne {w : World} {p m : Nat} {pv : Value} {D : Dsk} (h : DiskAt w p m pv D) : m ≠ p := by
  rintro rfl
  obtain ⟨l, hl, _⟩ := h.hm
  obtain ⟨es, c, hb, _⟩ := hl.ex
  rw [h.hp] at hb; cases hb
theorem DiskAt.vlt {w : World} {p m : Nat} {pv : Value} {D : Dsk} (h : DiskAt w p m pv D) {k : Nat} (hk : pv.ownBlock = some k) : k < w.heap.size ∧ k ≠ p ∧ k ≠ m := by
  refine ⟨(h.hv.lt k hk).2, ?_, ?_⟩
  · rintro rfl
    rcases h.hv.2 with ⟨rfl, _⟩ | ⟨g, cap, cur, rfl, _, hg, _⟩
    · cases hk
    · cases hk; rw [h.hp] at hg; cases hg
  · rintro rfl
    obtain ⟨l, hl, _⟩ := h.hm
    obtain ⟨es, c, hb, _⟩ := hl.ex
    rcases h.hv.2 with ⟨rfl, _⟩ | ⟨g, cap, cur, rfl, _, hg, _⟩
    · cases hk
    · cases hk; rw [hb] at hg; cases hg

/-- The device's blocks. -/
def Foot (p m : Nat) (pv : Value) : Nat → Prop := fun k => k = p ∨ k = m ∨ pv.ownBlock = some k

theorem DiskAt.fr {w w' : World} {p m : Nat} {pv : Value} {D : Dsk} (h : DiskAt w p m pv D) {S : Nat → Prop} (hf : Fr S w w') (hs : ∀ k, Foot p m pv k → ¬ S k) : DiskAt w' p m pv D := by
  obtain ⟨l, hl, hg⟩ := h.hm
  exact ⟨hf.keep h.hp (hs p (.inl rfl)), ⟨l, hl.fr hf (hs m (.inr (.inl rfl))), hg⟩, ownsRow_fr hf h.hv (fun k hk => hs k (.inr (.inr hk)))⟩

theorem DiskAt.drewN {w : World} {p m : Nat} {pv : Value} {D : Dsk} (h : DiskAt w p m pv D) (n : Nat) : DiskAt (w.drewN n) p m pv D := h.fr ((Fr.refl Non w).drewN n) (fun _ _ h => h)

/-- One cell of the struct is written. -/
theorem DiskAt.set {w w' : World} {p m : Nat} {pv : Value} {D D' : Dsk} (h : DiskAt w p m pv D) (hp : w'.heap[p]? = some (.cells (dkCells D' m pv) 78)) (hf : Fr (· = p) w w') (h1 : D'.dur = D.dur) (h2 : D'.pend = D.pend) : DiskAt w' p m pv D' := by
  obtain ⟨l, hl, hg⟩ := h.hm
  refine ⟨hp, ⟨l, hl.fr hf h.mne, by rw [h1]; exact hg⟩, ?_⟩
  rw [h2]
  exact ownsRow_fr hf h.hv (fun k hk e => (h.vlt hk).2.1 e)

/-! ### the small methods -/
theorem Sectors_c (w : World) (p m : Nat) (pv : Value) (D : Dsk) (h : DiskAt w p m pv D) :
    Calls Try.prog 13 #[.pointer (some ⟨p, 0, none⟩)] w fun e w' => e = .returned (.int .i64 D.n) ∧ w = w' := by
  obtain ⟨c0, c1, c2, c3, c4, c5, c6⟩ := h.cell
  clear h
  go_enter Try.func13, Try.ntmps13
  go_wp2
  go_ret
  exact ⟨rfl, rfl⟩
theorem Sectors_nil (w : World) : Calls Try.prog 13 #[.pointer none] w fun e w' => e = .returned (.int .i64 0) ∧ w = w' := by
  go_enter Try.func13, Try.ntmps13
  go_wp2
  go_ret
  exact ⟨rfl, rfl⟩

theorem Operations_c (w : World) (p m : Nat) (pv : Value) (D : Dsk) (h : DiskAt w p m pv D) :
    Calls Try.prog 14 #[.pointer (some ⟨p, 0, none⟩)] w fun e w' => e = .returned (.int .i64 D.ops) ∧ w = w' := by
  obtain ⟨c0, c1, c2, c3, c4, c5, c6⟩ := h.cell
  clear h
  go_enter Try.func14, Try.ntmps14
  go_wp2
  go_ret
  exact ⟨rfl, rfl⟩
theorem Operations_nil (w : World) : Calls Try.prog 14 #[.pointer none] w fun e w' => e = .returned (.int .i64 0) ∧ w = w' := by
  go_enter Try.func14, Try.ntmps14
  go_wp2
  go_ret
  exact ⟨rfl, rfl⟩

theorem Down_c (w : World) (p m : Nat) (pv : Value) (D : Dsk) (h : DiskAt w p m pv D) :
    Calls Try.prog 15 #[.pointer (some ⟨p, 0, none⟩)] w fun e w' => e = .returned (.bool D.down) ∧ w = w' := by
  obtain ⟨c0, c1, c2, c3, c4, c5, c6⟩ := h.cell
  clear h
  go_enter Try.func15, Try.ntmps15
  go_wp2
  go_ret
  exact ⟨rfl, rfl⟩
theorem Down_nil (w : World) : Calls Try.prog 15 #[.pointer none] w fun e w' => e = .returned (.bool false) ∧ w = w' := by
  go_enter Try.func15, Try.ntmps15
  go_wp2
  go_ret
  exact ⟨rfl, rfl⟩

def Dsk.has (D : Dsk) (k : Int) : Bool := decide (0 ≤ k ∧ k < D.n)
theorem has_c (w : World) (p m : Nat) (pv : Value) (D : Dsk) (k : Int) (h : DiskAt w p m pv D) :
    Calls Try.prog 37 #[.pointer (some ⟨p, 0, none⟩), .int .i64 k] w fun e w' => e = .returned (.bool (D.has k)) ∧ w = w' := by
  obtain ⟨c0, c1, c2, c3, c4, c5, c6⟩ := h.cell
  clear h
  by_cases h0 : 0 ≤ k
  · by_cases h1 : k < D.n
    · have e : D.has k = true := by simp [Dsk.has, h0, h1]
      rw [e]; clear e
      go_enter Try.func37, Try.ntmps37
      go_wp2
      go_ret
      exact ⟨rfl, rfl⟩
    · have e : D.has k = false := by simp [Dsk.has, h1]
      rw [e]; clear e
      go_enter Try.func37, Try.ntmps37
      go_wp2
      go_ret
      exact ⟨rfl, rfl⟩
  · have e : D.has k = false := by simp [Dsk.has, h0]
    rw [e]; clear e
    go_enter Try.func37, Try.ntmps37
    go_wp2
    go_ret
    exact ⟨rfl, rfl⟩

/-- Fail -/
theorem Fail_c (w : World) (p m : Nat) (pv : Value) (D : Dsk) (h : DiskAt w p m pv D) :
    Calls Try.prog 24 #[.pointer (some ⟨p, 0, none⟩)] w fun e w' => e = .returned (.tuple #[]) ∧ DiskAt w' p m pv { D with down := true } ∧ Fr (· = p) w w' := by
  obtain ⟨c0, c1, c2, c3, c4, c5, c6⟩ := h.cell
  have f := h.frozen
  have hfin : DiskAt (w.setCell ⟨p, 6, none⟩ (.bool true)) p m pv { D with down := true } ∧ Fr (· = p) w (w.setCell ⟨p, 6, none⟩ (.bool true)) := by
    have hf := (Fr.refl (· = p) w).setCell ⟨p, 6, none⟩ (.bool true) (fun _ => rfl)
    exact ⟨h.set (by rw [heap_setCell_at h.hp]; rfl) hf rfl rfl, hf⟩
  have HF := Lib.hid hfin
  clear hfin h
  go_enter Try.func24, Try.ntmps24
  go_wp2
  go_end0
  exact ⟨rfl, HF.out⟩
theorem Fail_nil (w : World) : Calls Try.prog 24 #[.pointer none] w fun e w' => e = .returned (.tuple #[]) ∧ w = w' := by
  go_enter Try.func24, Try.ntmps24
  go_wp2
  go_end0
  exact ⟨rfl, rfl⟩

/-- SetLimit -/
def Dsk.setLimit (D : Dsk) (k : Int) : Dsk := { D with limited := decide (0 ≤ k), limit := max k 0 }
theorem SetLimit_c (w : World) (p m : Nat) (pv : Value) (D : Dsk) (k : Int) (h : DiskAt w p m pv D) :
    Calls Try.prog 18 #[.pointer (some ⟨p, 0, none⟩), .int .i64 k] w fun e w' => e = .returned (.tuple #[]) ∧ DiskAt w' p m pv (D.setLimit k) ∧ Fr (· = p) w w' := by
  obtain ⟨c0, c1, c2, c3, c4, c5, c6⟩ := h.cell
  have f := h.frozen
  have hfin : ∀ b : Bool, ∀ j : Int, b = decide (0 ≤ k) → j = max k 0 → DiskAt ((w.setCell ⟨p, 4, none⟩ (.bool b)).setCell ⟨p, 5, none⟩ (.int .i64 j)) p m pv (D.setLimit k) ∧
      Fr (· = p) w ((w.setCell ⟨p, 4, none⟩ (.bool b)).setCell ⟨p, 5, none⟩ (.int .i64 j)) := by
    rintro b j rfl rfl
    have hf := ((Fr.refl (· = p) w).setCell ⟨p, 4, none⟩ (.bool (decide (0 ≤ k))) (fun _ => rfl)).setCell ⟨p, 5, none⟩ (.int .i64 (max k 0)) (fun _ => rfl)
    exact ⟨h.set (by rw [heap_setCell_at (heap_setCell_at h.hp _ _)]; rfl) hf rfl rfl, hf⟩
  have HF := Lib.hid hfin
  clear hfin h
  by_cases h0 : 0 ≤ k
  · go_enter Try.func18, Try.ntmps18
    go_wp2
    go_end0
    exact ⟨rfl, HF.out _ _ (by simp [h0]) (by omega)⟩
  · go_enter Try.func18, Try.ntmps18
    go_wp2
    go_end0
    exact ⟨rfl, HF.out _ _ (by simp [h0]) (by omega)⟩
theorem SetLimit_nil (w : World) (k : Int) : Calls Try.prog 18 #[.pointer none, .int .i64 k] w fun e w' => e = .returned (.tuple #[]) ∧ w = w' := by
  go_enter Try.func18, Try.ntmps18
  go_wp2
  go_end0
  exact ⟨rfl, rfl⟩

/-- operate: counts, or fails -/
def Dsk.spent (D : Dsk) : Bool := D.limited && decide (D.limit = 0)
def Dsk.count (D : Dsk) : Dsk := { D with limit := wrap64 (D.limit - 1), ops := wrap64 (D.ops + 1) }
theorem operate_no (w : World) (p m : Nat) (pv : Value) (D : Dsk) (h : DiskAt w p m pv D) (hs : D.spent = true) :
    Calls Try.prog 39 #[.pointer (some ⟨p, 0, none⟩)] w fun e w' => e = .returned (.int .i64 28) ∧ DiskAt w' p m pv { D with down := true } ∧ Fr (· = p) w w' := by
  obtain ⟨c0, c1, c2, c3, c4, c5, c6⟩ := h.cell
  have f := h.frozen
  have hfin : DiskAt (w.setCell ⟨p, 6, none⟩ (.bool true)) p m pv { D with down := true } ∧ Fr (· = p) w (w.setCell ⟨p, 6, none⟩ (.bool true)) := by
    have hf := (Fr.refl (· = p) w).setCell ⟨p, 6, none⟩ (.bool true) (fun _ => rfl)
    exact ⟨h.set (by rw [heap_setCell_at h.hp]; rfl) hf rfl rfl, hf⟩
  have HF := Lib.hid hfin
  clear hfin h
  obtain ⟨h1, h2⟩ : D.limited = true ∧ D.limit = 0 := by simpa [Dsk.spent] using hs
  clear hs
  rw [h1] at c4; rw [h2] at c5; clear h1 h2
  go_enter Try.func39, Try.ntmps39
  go_wp2
  go_ret
  exact ⟨rfl, HF.out⟩
theorem operate_yes (w : World) (p m : Nat) (pv : Value) (D : Dsk) (h : DiskAt w p m pv D) (hs : D.spent = false) :
    Calls Try.prog 39 #[.pointer (some ⟨p, 0, none⟩)] w fun e w' => e = .returned (.int .i64 0) ∧ DiskAt w' p m pv D.count ∧ Fr (· = p) w w' := by
  obtain ⟨c0, c1, c2, c3, c4, c5, c6⟩ := h.cell
  have f := h.frozen
  have hfin : DiskAt ((w.setCell ⟨p, 5, none⟩ (.int .i64 (wrap64 (D.limit - 1)))).setCell ⟨p, 3, none⟩ (.int .i64 (wrap64 (D.ops + 1)))) p m pv D.count ∧
      Fr (· = p) w ((w.setCell ⟨p, 5, none⟩ (.int .i64 (wrap64 (D.limit - 1)))).setCell ⟨p, 3, none⟩ (.int .i64 (wrap64 (D.ops + 1)))) := by
    have hf := ((Fr.refl (· = p) w).setCell ⟨p, 5, none⟩ (.int .i64 (wrap64 (D.limit - 1))) (fun _ => rfl)).setCell ⟨p, 3, none⟩ (.int .i64 (wrap64 (D.ops + 1))) (fun _ => rfl)
    exact ⟨h.set (by rw [heap_setCell_at (heap_setCell_at h.hp _ _)]; rfl) hf rfl rfl, hf⟩
  have HF := Lib.hid hfin
  clear hfin h
  generalize hl : D.limit = lim at *
  generalize ho : D.ops = ops at *
  by_cases h1 : D.limited = true
  · have h2 : (lim == 0) = false := by simpa [Dsk.spent, h1, hl] using hs
    clear hs hl ho
    rw [h1] at c4; clear h1
    go_enter Try.func39, Try.ntmps39
    go_wp2
    go_ret
    exact ⟨rfl, HF.out⟩
  · simp only [Bool.not_eq_true] at h1
    clear hs hl ho
    rw [h1] at c4; clear h1
    go_enter Try.func39, Try.ntmps39
    go_wp2
    go_ret
    exact ⟨rfl, HF.out⟩

/-- New -/
def Dsk.fresh (n : Int) : Dsk := { n := n, dur := fun _ => none, pend := [], ops := 0, limited := false, limit := 0, down := false }
theorem New_yes (w : World) (n : Int) (h0 : 1 ≤ n) (h1 : n ≤ 4096) :
    Calls Try.prog 12 #[.int .i64 n] w fun e w' => e = .returned (.tuple #[.pointer (some ⟨w.heap.size + 1, 0, none⟩), .int .i64 0]) ∧
      DiskAt w' (w.heap.size + 1) w.heap.size (.slice none 0 0) (Dsk.fresh n) ∧ Fr Non w w' := by
  have hmm := @run_makeMap Try.prog
  have hfin : DiskAt ((w.alloc (.map #[] 0)).alloc (.cells #[.int .i64 n, .map (some w.heap.size), .slice none 0 0, .int .i64 0, .bool false, .int .i64 0, .bool false] 78)) (w.heap.size + 1) w.heap.size (.slice none 0 0) (Dsk.fresh n) ∧
      Fr Non w ((w.alloc (.map #[] 0)).alloc (.cells #[.int .i64 n, .map (some w.heap.size), .slice none 0 0, .int .i64 0, .bool false, .int .i64 0, .bool false] 78)) := by
    refine ⟨⟨?_, ⟨[], ?_, fun k => rfl⟩, World.ownsRow_nil _ _ _ _⟩, ((Fr.refl _ w).alloc _).alloc _⟩
    · have := heap_alloc_new (w.alloc (.map #[] 0)) (.cells #[.int .i64 n, .map (some w.heap.size), .slice none 0 0, .int .i64 0, .bool false, .int .i64 0, .bool false] 78)
      rw [World.size_alloc] at this
      exact this
    · exact (MapAt.made w _ _).fr (S := Non) ((Fr.refl _ _).alloc _) (fun h => h)
  have HF := Lib.hid hfin
  clear hfin
  go_enter Try.func12, Try.ntmps12
  go_wp2
  go_ret2
  exact ⟨rfl, HF.out⟩
theorem New_no (w : World) (n : Int) (h : n < 1 ∨ 4096 < n) :
    Calls Try.prog 12 #[.int .i64 n] w fun e w' => e = .returned (.tuple #[.pointer none, .int .i64 2]) ∧ w = w' := by
  rcases h with h | h
  · go_enter Try.func12, Try.ntmps12
    go_wp2
    go_ret2
    exact ⟨rfl, rfl⟩
  · have h' : ¬ n < 1 := by omega
    go_enter Try.func12, Try.ntmps12
    go_wp2
    go_ret2
    exact ⟨rfl, rfl⟩
end Go.Proofs.Yticgkbpmaakkiaa
