/-
  Arguments opened: slices of bytes, slices of structs and arrays, as lists. Program-free.
-/
import Derived.Test.YticgkbpmaakkiaaOp2toRg3q
import Derived.Deep.Slices
namespace Go.Proofs.Yticgkbpmaakkiaa
open Go.RowKit Go.Deep

theorem list_of {α : Type} {p : Nat → α → Prop} : ∀ (n : Nat), (∀ i, i < n → ∃ x, p i x) → ∃ l : List α, l.length = n ∧ ∀ (i : Nat) (x : α), l[i]? = some x → p i x
  | 0, _ => ⟨[], rfl, fun i x h => by cases h⟩
  | n + 1, h => by
    obtain ⟨l, h1, h2⟩ := list_of n (fun i hi => h i (by omega))
    obtain ⟨x, hx⟩ := h n (by omega)
    refine ⟨l ++ [x], by simp [h1], fun i y hy => ?_⟩
    by_cases hi : i < l.length
    · rw [List.getElem?_append_left hi] at hy; exact h2 i y hy
    · have hj := (List.getElem?_eq_some_iff.1 hy).1
      simp at hj
      obtain rfl : i = l.length := by omega
      simp at hy
      subst hy; rw [h1]; exact hx

section
variable {H : Type} {enc : TypeId × Value → H} {P : Program} {w : World} {base : Nat} {spare : Nat → Bool} {held : Bool}

/-- A slice that came in: its shape, and each element's cells with their own reading. -/
theorem slice_elems {t e : TypeId} {k fuel : Nat} {cs : List Value} {x : DataW H × List MemPlace} (ht : P.underlying t = some (.slice e)) (hk : P.cellsOf e = k) (hk0 : 0 < k) (h : DataW.trod enc P w base spare held fuel t cs = some x) :
    ∃ a len cap, cs = [.slice a len cap] ∧ len ≤ cap ∧ cap ≤ maxLen ∧ (a = none → cap = 0) ∧
      ∀ i, i < len → ∃ b o n cs' y, a = some ⟨b, o, none⟩ ∧ b < w.heap.size ∧ cs'.length = k ∧ w.rangeAt b (o + i * k) cs' ∧ DataW.trod enc P w base spare held n e cs' = some y := by
  subst hk
  rcases open_slice ht h with ⟨rfl, _⟩ | ⟨a, len, cap, m, n, D, Pl, rfl, _, hl, hm, hmm, _, hx⟩
  · exact ⟨none, 0, 0, rfl, Nat.le_refl _, Nat.zero_le _, fun _ => rfl, fun i hi => by omega⟩
  · refine ⟨some a, len, cap, rfl, hl, hm, (fun h => by cases h), fun i hi => ?_⟩
    have hlm : len ≤ m := by rw [hmm]; split <;> omega
    obtain ⟨cs', hc, hd⟩ := hx i (by omega)
    obtain ⟨_, hlen, hcell⟩ := World.cells?_some hc
    have h0 := hcell 0 hk0
    have hs : a.spot = none := by
      obtain ⟨cs0, hc0, _⟩ := hx 0 (by omega)
      obtain ⟨_, hlen0, hcell0⟩ := World.cells?_some hc0
      have h00 := hcell0 0 hk0
      rw [List.getElem?_eq_getElem (by omega)] at h00
      simpa [Addr.add] using World.cell?_spot h00
    obtain ⟨b, o, s⟩ := a
    simp only at hs
    subst hs
    have key : ∀ j, ((⟨b, o, none⟩ : Addr).add (i * P.cellsOf e)).add j = ⟨b, o + i * P.cellsOf e + j, none⟩ := fun j => by rw [Addr.add_mid, Addr.add_mid]
    refine ⟨b, o, n, cs', _, rfl, ?_, hlen, fun j v hj => ?_, hd⟩
    · rw [List.getElem?_eq_getElem (by omega), key] at h0
      exact World.block_lt_of_cell? w _ h0
    · have hj' := (List.getElem?_eq_some_iff.1 hj).1
      have := hcell j (by omega)
      rw [key] at this
      rw [this, hj]

/-- .. as a list of a type of one's own. -/
theorem slice_list {α : Type} {t e : TypeId} {k fuel : Nat} {cs : List Value} {x : DataW H × List MemPlace} (ht : P.underlying t = some (.slice e)) (hk : P.cellsOf e = k) (hk0 : 0 < k) (h : DataW.trod enc P w base spare held fuel t cs = some x)
    (en : α → List Value) (good : α → Prop) (hdec : ∀ n cs' y, DataW.trod enc P w base spare held n e cs' = some y → ∃ z : α, cs' = en z ∧ good z) :
    ∃ a cap, ∃ l : List α, cs = [.slice a l.length cap] ∧ l.length ≤ cap ∧ cap ≤ maxLen ∧ (a = none → cap = 0) ∧ (l = [] ∨ ∃ b o, a = some ⟨b, o, none⟩ ∧ b < w.heap.size ∧ ∀ (i : Nat) (z : α), l[i]? = some z → w.rangeAt b (o + i * k) (en z)) ∧ ∀ z ∈ l, good z := by
  obtain ⟨a, len, cap, rfl, h1, h2, h3, h4⟩ := slice_elems ht hk hk0 h
  obtain ⟨l, hl, hp⟩ := list_of (p := fun i (z : α) => good z ∧ ∃ b o, a = some ⟨b, o, none⟩ ∧ b < w.heap.size ∧ w.rangeAt b (o + i * k) (en z)) len (fun i hi => by
    obtain ⟨b, o, n, cs', y, ha, hb, _, hr, hd⟩ := h4 i hi
    obtain ⟨z, hz, hg⟩ := hdec n cs' y hd
    exact ⟨z, hg, b, o, ha, hb, hz ▸ hr⟩)
  refine ⟨a, cap, l, by rw [hl], by omega, h2, h3, ?_, fun z hz => ?_⟩
  · cases hc : l with
    | nil => exact .inl rfl
    | cons z r =>
      right
      obtain ⟨_, b, o, ha, hb, _⟩ := hp 0 z (by rw [hc]; rfl)
      refine ⟨b, o, ha, hb, fun i y hy => ?_⟩
      obtain ⟨_, b', o', ha', _, hr⟩ := hp i y (by rw [hc]; exact hy)
      rw [ha] at ha'; cases ha'
      exact hr
  · obtain ⟨i, hi⟩ := List.getElem?_of_mem hz
    exact (hp i z hi).1

theorem byte_of {e : TypeId} (he : P.underlying e = some (.int .u8)) {n : Nat} {cs : List Value} {y : DataW H × List MemPlace} (h : DataW.trod enc P w base spare held n e cs = some y) : ∃ b : UInt8, cs = [.int .u8 (b.toNat : Int)] := by
  obtain ⟨m, rfl, _, hw⟩ := DataW.trod_int he h
  have e1 : IntKind.u8.min = 0 := rfl
  have e2 : IntKind.u8.max = 255 := rfl
  have : 0 ≤ m ∧ m ≤ 255 := by simp [Lit.wf] at hw; omega
  refine ⟨UInt8.ofNat m.toNat, ?_⟩
  rw [UInt8.toNat_ofNat']
  congr 2
  omega

/-- A slice of bytes that came in. -/
theorem bytes_of {t e : TypeId} {fuel : Nat} {cs : List Value} {x : DataW H × List MemPlace} (ht : P.underlying t = some (.slice e)) (he : P.underlying e = some (.int .u8)) (hk : P.cellsOf e = 1) (h : DataW.trod enc P w base spare held fuel t cs = some x) :
    ∃ a cap, ∃ l : List UInt8, cs = [.slice a l.length cap] ∧ l.length ≤ cap ∧ cap ≤ maxLen ∧ (a = none → cap = 0) ∧ (l = [] ∨ ∃ b o, a = some ⟨b, o, none⟩ ∧ b < w.heap.size ∧ w.rangeAt b o (u8s l)) := by
  obtain ⟨a, cap, l, h1, h2, h3, h4, h5, _⟩ := slice_list (α := UInt8) ht hk (by omega) h (fun b => [.int .u8 (b.toNat : Int)]) (fun _ => True) (fun n cs' y hy => by
    obtain ⟨b, hb⟩ := byte_of he hy
    exact ⟨b, hb, trivial⟩)
  refine ⟨a, cap, l, h1, h2, h3, h4, h5.imp id (fun ⟨b, o, e1, e2, e3⟩ => ⟨b, o, e1, e2, fun j v hj => ?_⟩)⟩
  have hj' := (List.getElem?_eq_some_iff.1 hj).1
  rw [u8s_length] at hj'
  have := e3 j l[j] (List.getElem?_eq_getElem hj') 0 _ rfl
  rw [show o + j * 1 + 0 = o + j by omega] at this
  rw [this, ← hj]
  simp [u8s, hj']
end

theorem take1 {cs : List Value} {o : Nat} {v : Value} (h : (cs.drop o).take 1 = [v]) : cs[o]? = some v := by
  have := congrArg (·[0]?) h
  simpa using this
end Go.Proofs.Yticgkbpmaakkiaa
