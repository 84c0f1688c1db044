/-
  What a run keeps in sectors that it does not name; two devices side by side.
-/
import Derived.Test.YticgkbpmaakkiaaDl4q
namespace Go.Proofs.Yticgkbpmaakkiaa
open Go.RowKit

def Kept (D0 : Dsk) (T : Int → Prop) (D : Dsk) : Prop := D.n = D0.n ∧ (∀ i, ¬ T i → D.at i = D0.at i) ∧ ∀ x ∈ D.pend, T x.1

theorem storeAll_off (i : Int) : ∀ (l : List (Int × Sec)) (D : Dsk), (∀ x ∈ l, x.1 ≠ i) → (D.storeAll l).at i = D.at i
  | [], _, _ => rfl
  | x :: r, D, h => by
    show ((D.store x.1 x.2).storeAll r).at i = _
    rw [storeAll_off i r _ (fun y hy => h y (List.mem_cons_of_mem _ hy)), store_at, if_neg (fun e => h x (List.mem_cons_self ..) e.symm)]
theorem restartTo_at (D : Dsk) (cs : List UInt8) (i : Int) (h : ∀ x ∈ D.pend, x.1 ≠ i) : ∀ k, (D.restartTo cs k).at i = D.at i
  | 0 => rfl
  | k + 1 => by
    unfold Dsk.restartTo
    split
    · rename_i x hx
      rw [store_at, if_neg (fun e => h x (List.mem_of_getElem? hx) e.symm)]
      exact restartTo_at D cs i h k
    · exact restartTo_at D cs i h k

theorem Kept.mono {D0 D : Dsk} {T T' : Int → Prop} (h : Kept D0 T D) (ht : ∀ i, T i → T' i) : Kept D0 T' D :=
  ⟨h.1, fun i hi => h.2.1 i (fun hh => hi (ht i hh)), fun x hx => ht _ (h.2.2 x hx)⟩

theorem Kept.act {D0 D : Dsk} {T : Int → Prop} (h : Kept D0 T D) (o : OpS) (cs : List UInt8) : Kept D0 (fun i => T i ∨ o.sec = i) (D.act o cs) := by
  have hm := h.mono (T' := fun i => T i ∨ o.sec = i) (fun _ h => .inl h)
  unfold Dsk.act
  split
  · unfold Dsk.wr
    split
    · exact hm
    split
    · exact hm
    split
    · exact hm
    · refine ⟨hm.1, hm.2.1, fun x hx => ?_⟩
      rcases List.mem_append.1 hx with hx | hx
      · exact hm.2.2 x hx
      · rw [List.mem_singleton.1 hx]; exact .inr rfl
  split
  · unfold Dsk.fl
    split
    · exact hm
    split
    · exact hm
    · obtain ⟨k1, k2, k3, k4, k5, k6⟩ := storeAll_keeps D.pend D.count
      refine ⟨k2.trans hm.1, fun i hi => ?_, fun x hx => by cases hx⟩
      have := storeAll_off i D.pend D.count (fun x hx e => hi (e ▸ hm.2.2 x hx))
      exact this.trans (hm.2.1 i hi)
  split
  · exact hm
  split
  · unfold Dsk.re
    split
    · exact hm
    · obtain ⟨k1, k2, k3, k4, k5, k6⟩ := restartTo_keeps D cs D.pend.length
      refine ⟨k2.trans hm.1, fun i hi => ?_, fun x hx => by cases hx⟩
      have := restartTo_at D cs i (fun x hx e => hi (e ▸ hm.2.2 x hx)) D.pend.length
      exact this.trans (hm.2.1 i hi)
  split
  · exact hm
  split
  · unfold Dsk.da
    split
    · exact hm
    split
    · exact hm
    · refine ⟨hm.1, fun i hi => ?_, fun x hx => ?_⟩
      · have : (D.damage o.sec o.at'.toNat o.first).at i = (D.store o.sec (xorAt (D.at o.sec) o.at'.toNat o.first)).at i := rfl
        rw [this, store_at, if_neg (fun e => hi (.inr e.symm))]
        exact hm.2.1 i hi
      · obtain ⟨y, hy, rfl⟩ := List.mem_map.1 hx
        have := hm.2.2 y hy
        unfold dmg
        split <;> exact this
  · exact hm

theorem Kept.acts {D0 : Dsk} : ∀ (os : List OpX) {D : Dsk} {T : Int → Prop}, Kept D0 T D → Kept D0 (fun i => T i ∨ ∃ x ∈ os, x.1.sec = i) (D.acts os)
  | [], D, T, h => h.mono (fun _ h => .inl h)
  | x :: r, D, T, h => ((h.act x.1 x.2.2).acts r).mono (fun i hi => by
    rcases hi with (hi | hi) | ⟨y, hy, e⟩
    · exact .inl hi
    · exact .inr ⟨x, List.mem_cons_self .., hi⟩
    · exact .inr ⟨y, List.mem_cons_of_mem _ hy, e⟩)

theorem fl_cases (D : Dsk) : D.fl.2 = 28 ∨ (D.fl.2 = 0 ∧ D.fl.1.pend = [] ∧ D.fl.1.down = false ∧ D.fl.1.n = D.n) := by
  unfold Dsk.fl
  split
  · exact .inl rfl
  split
  · exact .inl rfl
  · obtain ⟨k1, k2, k3, k4, k5, k6⟩ := storeAll_keeps D.pend D.count
    exact .inr ⟨rfl, rfl, k6.trans (show D.down = false from by simpa using ‹¬ D.down = true›), k2⟩
theorem fl_ok (D : Dsk) (h : Dok D) (hl : D.pend.length ≤ 49999) : Dok D.fl.1 := by
  have e : D.fl.1 = D.act ⟨1, 0, 0, 0, 0⟩ [] := rfl
  rw [e]
  exact (act_ok D _ _ h hl (by decide)).1

/-- The marks of the sectors that operations name. -/
def marks (N : Nat) (os : List OpX) : List Bool := (List.range N).map fun (i : Nat) => os.any fun x => decide (x.1.sec = (i : Int))
theorem marks_length (N : Nat) (os : List OpX) : (marks N os).length = N := by simp [marks]
theorem marks_nil (N : Nat) : marks N [] = List.replicate N false := by
  unfold marks
  apply List.ext_getElem
  · simp
  · intro i h1 h2; simp
theorem marks_in (N : Nat) (os : List OpX) (x : OpX) (j : Nat) (hj : x.1.sec = (j : Int)) : marks N (os ++ [x]) = (marks N os).set j true := by
  unfold marks
  apply List.ext_getElem
  · simp
  · intro i h1 h2
    simp only [List.getElem_map, List.getElem_range, List.getElem_set, List.any_append, List.any_cons, List.any_nil, Bool.or_false, hj]
    by_cases h : j = i
    · simp [h]
    · have : ¬ (j : Int) = (i : Int) := by omega
      simp [h, this]
theorem marks_out (N : Nat) (os : List OpX) (x : OpX) (hx : ¬ (0 ≤ x.1.sec ∧ x.1.sec < (N : Int))) : marks N (os ++ [x]) = marks N os := by
  unfold marks
  apply List.map_congr_left
  intro i hi
  have := List.mem_range.1 hi
  have h2 : ¬ x.1.sec = (i : Int) := by omega
  simp [List.any_append, h2]
theorem marks_get (N : Nat) (os : List OpX) (i : Nat) (hi : i < N) : (marks N os)[i]? = some (os.any fun x => decide (x.1.sec = (i : Int))) := by simp [marks, hi]

/-! ### two devices -/
structure Two (B : Nat) (w : World) (p m : Nat) (pv dv wv : Value) (D : Dsk) (p' m' : Nat) (pv' : Value) (D' : Dsk) : Prop where
  a : Both B w p m pv dv wv D
  b : DiskAt w p' m' pv' D'
  foot : ∀ k, Foot p' m' pv' k → B ≤ k
  dj : ∀ k, Foot p m pv k → ¬ Foot p' m' pv' k

theorem Two.non {B : Nat} {w w' : World} {p m p' m' : Nat} {pv dv wv pv' : Value} {D D' : Dsk} (h : Two B w p m pv dv wv D p' m' pv' D') (hF : Fr Non w w') : Two B w' p m pv dv wv D p' m' pv' D' :=
  ⟨h.a.non hF, h.b.fr hF (fun _ _ h => h), h.foot, h.dj⟩
theorem Two.put {B : Nat} {w : World} {p m p' m' g : Nat} {pv dv wv pv' : Value} {D D' : Dsk} {cs : Array Value} (h : Two B w p m pv dv wv D p' m' pv' D') (hg : w.heap[g]? = some (.cells cs 45)) (l : List Value) : Two B (w.setCells g 0 l) p m pv dv wv D p' m' pv' D' := by
  have hF : Fr (· = g) w (w.setCells g 0 l) := Fr.setCells (S := (· = g)) _ (fun _ => rfl) _ _ _ (Fr.refl _ _)
  exact ⟨h.a.put hg l, h.b.fr hF (fun k hk e => by subst e; exact h.b.no45 hg hk), h.foot, h.dj⟩
/-- The first device takes a step. -/
theorem Two.step {w0 w w' : World} {p m p' m' : Nat} {pv dv wv pv' : Value} {D D2 D' : Dsk} (h : Two w0.heap.size w p m pv dv wv D p' m' pv' D') (hF : Fr Non w0 w) {dv' wv' : Value} (hS : Step w w' p m pv D2) (hR : RefAt w' dv' wv' D2) (hD : Dok D2) :
    ∃ pv2, Two w0.heap.size w' p m pv2 dv' wv' D2 p' m' pv' D' ∧ Fr Non w0 w' := by
  obtain ⟨pv2, h1, h2, h3⟩ := hS
  have hb : DiskAt w' p' m' pv' D' := h.b.fr h2 (fun k hk e => h.dj k e hk)
  refine ⟨pv2, ⟨⟨h1, hR, hD, fun k hk => ?_⟩, hb, h.foot, fun k hk hk' => ?_⟩, hF.trans h2 (fun i hi hf => by have := h.a.foot i hf; omega)⟩
  · rcases hk with e | e | e
    · exact h.a.foot k (.inl e)
    · exact h.a.foot k (.inr (.inl e))
    · rcases h3 k e with q | q
      · exact h.a.foot k (.inr (.inr q))
      · exact Nat.le_trans hF.size q
  · rcases hk with e | e | e
    · exact h.dj k (.inl e) hk'
    · exact h.dj k (.inr (.inl e)) hk'
    · rcases h3 k e with q | q
      · exact h.dj k (.inr (.inr q)) hk'
      · have := foot_lt h.b hk'; omega
/-- A block of a kind that no device has. -/
theorem DiskAt.notOf {w : World} {p m : Nat} {pv : Value} {D : Dsk} (h : DiskAt w p m pv D) {k : Nat} {cs : Array Value} {t : TypeId} (hk : w.heap[k]? = some (.cells cs t)) (ht : t ≠ 78 ∧ t ≠ 82) : ¬ Foot p m pv k := by
  rintro (rfl | rfl | hk')
  · rw [h.hp] at hk; cases hk; exact ht.1 rfl
  · obtain ⟨l, hl, _⟩ := h.hm
    obtain ⟨es, c, hb, _⟩ := hl.ex
    rw [hb] at hk; cases hk
  · obtain ⟨cs', hc⟩ := Own.typed (show Own w 82 257 wcells pv D.pend from h.hv) hk'
    rw [hc] at hk; cases hk; exact ht.2 rfl

theorem info60 : (Try.prog.info? 60).map (fun i => (i.zero, i.size)) = some (some (.agg #[.int .i64 0, .int .i64 0, .int .i64 0, .int .u8 0, .int .u8 0, .slice none 0 0]), 6) := by kernel_rfl
theorem zero60 (w : World) : (zeroValue 60).run Try.prog w = .ok (.agg #[.int .i64 0, .int .i64 0, .int .i64 0, .int .u8 0, .int .u8 0, .slice none 0 0]) w := (zero_of_info info60).1 w
/-- make([]bool, n) -/
def boolC (l : List Bool) : Array Value := (l.map Value.bool).toArray
theorem boolC_get (l : List Bool) (i : Nat) (b : Bool) (h : l[i]? = some b) : (boolC l)[i]? = some (.bool b) := by simp [boolC, h]
theorem boolC_set (l : List Bool) (i : Nat) : (boolC l).setIfInBounds i (.bool true) = boolC (l.set i true) := by
  unfold boolC
  apply Array.ext'
  simp
theorem info4 : (Try.prog.info? 4).map (fun i => (i.zero, i.size, i.bytes)) = some (some (.bool false), 1, 1) := by kernel_rfl
theorem run_makeBool (w : World) (n : Nat) (hn : n ≤ 4096) : (Instr.makeSlice 34 (.int .i64 n) (.int .i64 n)).run Try.prog w = .ok (.slice (some ⟨w.heap.size, 0, none⟩) n n) (w.alloc (.cells (boolC (List.replicate n false)) 4)) := by
  obtain ⟨i, hi, hz, hs, hb⟩ := info_parts info4
  have := run_make (P := Try.prog) w 34 4 i _ Try.underlying34 hi hz .i64 .i64 n n (by omega) (by omega) (by rw [hb]; omega) (by omega)
  rw [this, hs]
  have e : madeCells (Value.bool false).cells ((n : Int).toNat * 1) = boolC (List.replicate n false) := by
    unfold madeCells boolC
    apply Array.ext'
    simp only [Array.toList_map, Array.toList_range, List.map_replicate]
    apply List.ext_getElem
    · simp
    · intro i h1 h2
      simp [Value.cells, Nat.mod_one]
  rw [e]
  simp
end Go.Proofs.Yticgkbpmaakkiaa
