/-
  What a run leaves, in short; units of sectors.
-/
import Derived.Test.YticgkbpmaakkiaaDl0
namespace Go.Proofs.Yticgkbpmaakkiaa
open Go.RowKit

def RunAny (w w' : World) (e : Ending) (n : Int) : Prop := ∃ D p m pv dv wv, e = .returned (.tuple #[.pointer (some ⟨p, 0, none⟩), .agg (refL dv wv D).toArray, .bool true]) ∧ Both w.heap.size w' p m pv dv wv D ∧ Fr Non w w' ∧ D.pend.length ≤ 40 ∧ D.n = n

theorem run_any (w : World) (n : Int) (h0 : 1 ≤ n) (h1 : n ≤ 4096) (a : Option Addr) (cap : Nat) (os : List OpX) (hl : os.length ≤ 40) (ho : OpsAt w a os) :
    Calls Try.prog 23 #[.int .i64 n, .slice a os.length cap] w fun e w' => RunAny w w' e n := by
  refine (run_c w n h0 h1 a cap os hl ho).mono ?_
  rintro e w' ⟨p, m, pv, dv, wv, he, hb, hF⟩
  obtain ⟨-, q, r⟩ := acts_ok os (Dsk.fresh n) 0 (fresh_ok n h0 h1) (Nat.zero_le _) (by omega) (fun y hy => (ho.2 y hy).2.2.2.2)
  exact ⟨_, p, m, pv, dv, wv, he, hb, hF, by omega, r⟩

/-! ### units -/
def seg (l : List UInt8) (z : Nat) : List UInt8 := (l.drop z).take 16

theorem seg_torn (s t : Sec) (n z : Nat) (hn : n % 16 = 0) (hz : z % 16 = 0) : seg (tornL s.1 t.1 n) z = if z < n then seg t.1 z else seg s.1 z := by
  have h1 := s.2
  have h2 := t.2
  unfold seg tornL
  split
  · rename_i h
    apply List.ext_getElem?
    intro i
    simp only [List.getElem?_take, List.getElem?_drop, List.getElem?_append, List.length_take]
    by_cases hi : i < 16
    · simp only [hi, if_true]
      by_cases hb : z + i < 256
      · rw [if_pos (by omega), if_pos (by omega)]
      · rw [if_neg (by omega)]
        rw [List.getElem?_eq_none (by omega), List.getElem?_eq_none (by omega)]
    · simp [hi]
  · rename_i h
    apply List.ext_getElem?
    intro i
    simp only [List.getElem?_take, List.getElem?_drop, List.getElem?_append, List.length_take]
    by_cases hi : i < 16
    · simp only [hi, if_true]
      rw [if_neg (by omega)]
      by_cases hb : n ≤ 256
      · congr 1; omega
      · rw [List.getElem?_eq_none (by omega), List.getElem?_eq_none (by omega)]
    · simp [hi]

theorem fateN_mod (c : UInt8) : fateN c % 16 = 0 := by
  unfold fateN tornN
  split
  · rfl
  · split
    · rfl
    · omega

theorem units_to (D : Dsk) (cs : List UInt8) (i : Int) (z : Nat) (hz : z % 16 = 0) : ∀ k, seg ((D.restartTo cs k).at i).1 z = seg (D.at i).1 z ∨ ∃ x ∈ D.pend, x.1 = i ∧ seg ((D.restartTo cs k).at i).1 z = seg x.2.1 z
  | 0 => .inl rfl
  | k + 1 => by
    have ih := units_to D cs i z hz k
    unfold Dsk.restartTo
    split
    · rename_i x hx
      rw [store_at]
      split
      · rename_i hi
        rw [fateOf_torn]
        show seg (tornL _ _ _) z = _ ∨ _
        rw [seg_torn _ _ _ _ (fateN_mod _) hz]
        split
        · refine .inr ⟨x, List.mem_of_getElem? hx, hi.symm, ?_⟩
          show seg (tornL _ _ _) z = _
          rw [seg_torn _ _ _ _ (fateN_mod _) hz, if_pos ‹_›]
        · rcases ih with h | ⟨y, hy, e, h⟩
          · left; rw [← hi]; exact h
          · refine .inr ⟨y, hy, e, ?_⟩
            show seg (tornL _ _ _) z = _
            rw [seg_torn _ _ _ _ (fateN_mod _) hz, if_neg ‹_›, ← hi]; exact h
      · exact ih
    · exact ih

/-- the search of the law: is the unit the durable one, or that of one of the first k pending writes? -/
def fnd (e b : List UInt8) (l : List (Int × Sec)) (i : Int) (z k : Nat) : Bool := decide (seg e z = seg b z) || (l.take k).any fun x => decide (x.1 = i) && decide (seg e z = seg x.2.1 z)
theorem fnd_zero (e b : List UInt8) (l : List (Int × Sec)) (i : Int) (z : Nat) : fnd e b l i z 0 = decide (seg e z = seg b z) := by simp [fnd]
theorem fnd_succ (e b : List UInt8) (l : List (Int × Sec)) (i : Int) (z k : Nat) (x : Int × Sec) (hx : l[k]? = some x) : fnd e b l i z (k + 1) = (fnd e b l i z k || (decide (x.1 = i) && decide (seg e z = seg x.2.1 z))) := by
  unfold fnd
  rw [List.take_add_one, hx, List.any_append, Bool.or_assoc]
  simp
theorem fnd_all (D : Dsk) (cs : List UInt8) (i : Int) (z : Nat) (hz : z % 16 = 0) : fnd ((D.restart cs).see i).1 (D.at i).1 D.pend i z D.pend.length = true := by
  have h : (D.restart cs).see i = (D.restartTo cs D.pend.length).at i := rfl
  rw [h]
  unfold fnd
  rw [List.take_length]
  rcases units_to D cs i z hz D.pend.length with e | ⟨x, hx, e1, e2⟩
  · rw [e]; simp
  · rw [Bool.or_eq_true]
    exact .inr (List.any_eq_true.2 ⟨x, hx, by rw [e2]; simp [e1]⟩)

theorem seg_length (l : List UInt8) (z : Nat) (hl : l.length = 256) (hz : z + 16 ≤ 256) : (seg l z).length = 16 := by unfold seg; rw [List.length_take, List.length_drop]; omega
theorem BytesAt.seg {w : World} {g o c c' : Nat} {l : List UInt8} (h : BytesAt w (.slice (some ⟨g, o, none⟩) 256 c) l) (hl : l.length = 256) (z : Nat) (hz : z + 16 ≤ 256) : BytesAt w (.slice (some ⟨g, o + z, none⟩) 16 c') (seg l z) := by
  obtain ⟨a, cap, e, h⟩ := h
  have hs := seg_length l z hl hz
  refine ⟨some ⟨g, o + z, none⟩, c', by rw [hs], .inr ⟨g, o + z, rfl, ?_⟩⟩
  rcases h with h | ⟨b, o', e', h⟩
  · rw [h] at hl; simp at hl
  · have e2 : a = some ⟨g, o, none⟩ := (Value.slice.inj e).1.symm
    rw [e2] at e'
    cases e'
    intro j v hv
    have hj := (List.getElem?_eq_some_iff.1 hv).1
    rw [u8s_length, hs] at hj
    rw [show o + z + j = o + (z + j) by omega]
    apply h
    rw [← hv]
    unfold Go.Proofs.Yticgkbpmaakkiaa.seg
    simp [u8s, List.getElem?_take, hj]
end Go.Proofs.Yticgkbpmaakkiaa
