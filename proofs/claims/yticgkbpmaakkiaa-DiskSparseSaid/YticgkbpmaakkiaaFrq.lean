/-
  The frame: of all memory that lay when a piece of code began, nothing but the blocks named has turned. Program-free.
-/
import Derived.Below
import Derived.RangeFuncOwn
import Derived.Deep.MidRow
import Derived.Deep.Draws
import Derived.Lib.Hide
namespace Go.Proofs.Yticgkbpmaakkiaa
open Go.RowKit

/-- Of the blocks that lay in w only those in S may be other in w'. -/
structure Fr (S : Nat → Prop) (w w' : World) : Prop where
  os : w'.os = w.os
  tape : w'.tape = w.tape
  output : w'.output = w.output
  size : w.heap.size ≤ w'.heap.size
  block : ∀ k, k < w.heap.size → ¬ S k → w'.heap[k]? = w.heap[k]?

abbrev Non : Nat → Prop := fun _ => False

theorem Fr.refl (S : Nat → Prop) (w : World) : Fr S w w := ⟨rfl, rfl, rfl, Nat.le_refl _, fun _ _ _ => rfl⟩

theorem Fr.trans {S T : Nat → Prop} {a b c : World} (h : Fr S a b) (k : Fr T b c) (hs : ∀ i, i < a.heap.size → T i → S i) : Fr S a c :=
  ⟨k.os.trans h.os, k.tape.trans h.tape, k.output.trans h.output, Nat.le_trans h.size k.size,
    fun i hi hn => (k.block i (Nat.lt_of_lt_of_le hi h.size) (fun ht => hn (hs i hi ht))).trans (h.block i hi hn)⟩

theorem Fr.mono {S T : Nat → Prop} {a b : World} (h : Fr S a b) (hs : ∀ i, i < a.heap.size → S i → T i) : Fr T a b :=
  ⟨h.os, h.tape, h.output, h.size, fun i hi hn => h.block i hi (fun ht => hn (hs i hi ht))⟩

theorem Fr.drewN {S : Nat → Prop} {a b : World} (h : Fr S a b) (n : Nat) : Fr S a (b.drewN n) := ⟨h.os, h.tape, h.output, h.size, h.block⟩
theorem Fr.drew {S : Nat → Prop} {a b : World} (h : Fr S a b) : Fr S a b.drew := ⟨h.os, h.tape, h.output, h.size, h.block⟩

theorem Fr.alloc {S : Nat → Prop} {a b : World} (h : Fr S a b) (o : Obj) : Fr S a (b.alloc o) :=
  ⟨h.os, h.tape, h.output, by simp; have := h.size; omega, fun k hk hn => (Below.heap_alloc b o k (Nat.lt_of_lt_of_le hk h.size)).trans (h.block k hk hn)⟩

theorem Fr.setCell {S : Nat → Prop} {a b : World} (h : Fr S a b) (p : Addr) (v : Value) (hp : p.block < a.heap.size → S p.block) : Fr S a (b.setCell p v) :=
  ⟨h.os, h.tape, h.output, by simp [h.size], fun k hk hn => (Below.heap_setCell b p v k (fun e => by subst e; exact hn (hp hk))).trans (h.block k hk hn)⟩

theorem Fr.putObj {S : Nat → Prop} {a b : World} (h : Fr S a b) (r : Nat) (o : Obj) (hp : r < a.heap.size → S r) : Fr S a (b.putObj r o) :=
  ⟨h.os, h.tape, h.output, by simp [h.size], fun k hk hn => (World.putObj_heap_other (fun e => by subst e; exact hn (hp hk))).trans (h.block k hk hn)⟩

theorem Fr.grown {S : Nat → Prop} {a b c : World} {row : Option Nat} (h : Fr S a b) (hg : b.grownBy c row) (hr : ∀ k, row = some k → k < a.heap.size → S k) : Fr S a c :=
  ⟨hg.os.trans h.os, hg.tape.trans h.tape, hg.output.trans h.output, Nat.le_trans h.size hg.size,
    fun k hk hn => (hg.block k (Nat.lt_of_lt_of_le hk h.size) (fun e => hn (hr k e.symm hk))).trans (h.block k hk hn)⟩

theorem Fr.below {S : Nat → Prop} {a b : World} (h : Fr S a b) {B : Nat} (hB : B ≤ a.heap.size) (hs : ∀ i, i < B → ¬ S i) : Below B a b :=
  ⟨h.os, h.tape, h.output, h.size, fun k hk => h.block k (by omega) (hs k hk)⟩

theorem Fr.of_below {S : Nat → Prop} {a b : World} {B : Nat} (h : Below B a b) (hs : ∀ i, i < a.heap.size → B ≤ i → S i) : Fr S a b :=
  ⟨h.os, h.tape, h.output, h.size, fun k hk hn => h.block k (by
    rcases Nat.lt_or_ge k B with hb | hb
    · exact hb
    · exact absurd (hs k hk hb) hn)⟩

theorem Fr.of_new {a b : World} (h : Below a.heap.size a b) (S : Nat → Prop) : Fr S a b := Fr.of_below h (fun i hi hb => by omega)
theorem Fr.to_new {a b : World} (h : Fr Non a b) : Below a.heap.size a b := h.below (Nat.le_refl _) (fun _ _ hf => hf)

theorem heap_lt {w : World} {b : Nat} {o : Obj} (h : w.heap[b]? = some o) : b < w.heap.size := (Array.getElem?_eq_some_iff.1 h).1

theorem Fr.keep {S : Nat → Prop} {a b : World} (h : Fr S a b) {k : Nat} {o : Obj} (hk : a.heap[k]? = some o) (hn : ¬ S k) : b.heap[k]? = some o :=
  (h.block k (heap_lt hk) hn).trans hk

theorem Fr.cell {S : Nat → Prop} {a b : World} (h : Fr S a b) {p : Addr} {v : Value} (hk : a.cell? p = some v) (hn : ¬ S p.block) : b.cell? p = some v :=
  (World.cell?_of_block (w := a) (h.block _ (World.block_lt_of_cell? a p hk) hn)).trans hk

/-- A row that is owned stays so when what has turned is not its block. -/
theorem ownsRow_fr {S : Nat → Prop} {a b : World} (h : Fr S a b) {base : Nat} {e : TypeId} {size : Nat} {v : Value} {n : Nat} {xs : List Value} (ho : a.ownsRow base e size v n xs)
    (hn : ∀ k, v.ownBlock = some k → ¬ S k) : b.ownsRow base e size v n xs := by
  refine ⟨ho.1, ?_⟩
  rcases ho.2 with hh | ⟨g, cap, cur, rfl, hb, hg, rest⟩
  · exact .inl hh
  · exact .inr ⟨g, cap, cur, rfl, hb, h.keep hg (hn g rfl), rest⟩

theorem ownsRow_base {a : World} {base base' : Nat} {e : TypeId} {size : Nat} {v : Value} {n : Nat} {xs : List Value} (ho : a.ownsRow base e size v n xs) (hb : base' ≤ base) : a.ownsRow base' e size v n xs := by
  refine ⟨ho.1, ?_⟩
  rcases ho.2 with hh | ⟨g, cap, cur, rfl, hb', rest⟩
  · exact .inl hh
  · exact .inr ⟨g, cap, cur, rfl, by omega, rest⟩

/-! ### a block of cells known whole -/
theorem cellOf {w : World} {b : Nat} {cs : Array Value} {t : TypeId} (h : w.heap[b]? = some (.cells cs t)) (i : Nat) {v : Value} (hv : cs[i]? = some v) : w.cell? ⟨b, i, none⟩ = some v := by
  rw [cell_of_row w b i cs t (0, 0) h]; exact hv
theorem frozenOf {w : World} {b : Nat} {cs : Array Value} {t : TypeId} (h : w.heap[b]? = some (.cells cs t)) (i : Nat) : w.frozen? ⟨b, i, none⟩ = false := frozen_of_row w b i cs t h

theorem heap_setCell_at {w : World} {b : Nat} {cs : Array Value} {t : TypeId} (h : w.heap[b]? = some (.cells cs t)) (i : Nat) (v : Value) :
    (w.setCell ⟨b, i, none⟩ v).heap[b]? = some (.cells (cs.setIfInBounds i v) t) := heap_setCell_same w b i cs t v h

theorem heap_setCells {b : Nat} {t : TypeId} : ∀ (vs : List Value) (o : Nat) (cs : Array Value) (w : World), w.heap[b]? = some (.cells cs t) → o + vs.length ≤ cs.size →
    (w.setCells b o vs).heap[b]? = some (.cells (cs.toList.take o ++ vs ++ cs.toList.drop (o + vs.length)).toArray t)
  | [], o, cs, w, h, _ => by simpa [World.setCells] using h
  | v :: r, o, cs, w, h, hl => by
    rw [World.setCells]
    simp only [List.length_cons] at hl
    rw [heap_setCells r (o + 1) (cs.setIfInBounds o v) _ (heap_setCell_at h o v) (by simp; omega)]
    congr 2
    apply Array.ext'
    simp only [Array.toList_setIfInBounds, List.length_cons]
    apply List.ext_getElem?
    intro i
    simp only [List.getElem?_append, List.length_append, List.length_take, List.getElem?_take, List.getElem?_drop, List.length_set, Array.length_toList, List.getElem?_set]
    by_cases h1 : i < o
    · simp [show i < min o cs.size by omega, show i < min (o + 1) cs.size by omega, show i < o + 1 by omega, show ¬ o = i by omega, h1, show i < min o cs.size + (r.length + 1) by omega, show i < min (o + 1) cs.size + r.length by omega]
    · by_cases h2 : i = o
      · subst h2
        simp [show i < cs.size by omega, show min (i + 1) cs.size = i + 1 by omega, show min i cs.size = i by omega, show i < i + 1 + r.length by omega, show i < i + (r.length + 1) by omega]
      · by_cases h3 : i < o + 1 + r.length
        · simp [show min (o + 1) cs.size = o + 1 by omega, show min o cs.size = o by omega, show i < o + (r.length + 1) by omega, h3, show ¬ i < o + 1 by omega, h1, show i - o = (i - (o + 1)) + 1 by omega]
        · simp [show min (o + 1) cs.size = o + 1 by omega, show min o cs.size = o by omega, show ¬ i < o + (r.length + 1) by omega, h3,
            show o + 1 + r.length + (i - (o + 1 + r.length)) = o + (r.length + 1) + (i - (o + (r.length + 1))) by omega]
          omega

theorem setCells_size (b : Nat) : ∀ (vs : List Value) (o : Nat) (w : World), (w.setCells b o vs).heap.size = w.heap.size
  | [], _, _ => rfl
  | v :: r, o, w => by rw [World.setCells, setCells_size b r]; simp

theorem heap_setCells_other {b : Nat} (k : Nat) (hk : k ≠ b) : ∀ (vs : List Value) (o : Nat) (w : World), (w.setCells b o vs).heap[k]? = w.heap[k]?
  | [], _, _ => rfl
  | v :: r, o, w => by rw [World.setCells, heap_setCells_other k hk r]; exact Below.heap_setCell _ _ _ _ hk

theorem Fr.setCells {S : Nat → Prop} {a : World} (b : Nat) (hp : b < a.heap.size → S b) : ∀ (vs : List Value) (o : Nat) (c : World), Fr S a c → Fr S a (c.setCells b o vs)
  | [], _, _, h => h
  | v :: r, o, c, h => by rw [World.setCells]; exact Fr.setCells b hp r (o + 1) _ (h.setCell _ _ hp)

theorem there_of {w : World} {b : Nat} {cs : Array Value} {t : TypeId} (h : w.heap[b]? = some (.cells cs t)) (o n : Nat) (hn : o + n ≤ cs.size) : w.there b o n := fun j hj =>
  ⟨by rw [cell_of_row w b (o + j) cs t (0, 0) h]; simp; omega, frozenOf h _⟩

theorem rangeAt_of {w : World} {b : Nat} {cs : Array Value} {t : TypeId} (h : w.heap[b]? = some (.cells cs t)) (o : Nat) (l : List Value) (hl : ∀ j v, l[j]? = some v → cs[o + j]? = some v) : w.rangeAt b o l := fun j v hv => by
  rw [cell_of_row w b (o + j) cs t (0, 0) h]; exact hl j v hv

end Go.Proofs.Yticgkbpmaakkiaa
