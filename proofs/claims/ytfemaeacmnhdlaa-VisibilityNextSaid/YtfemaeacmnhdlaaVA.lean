/-
  The order of identities is a strict weak order that parts them; rows of own cells that the sort turns.
-/
import Derived.Test.YtfemaeacmnhdlaaV9
import Derived.Shelf.SlSortCmp.KitK
namespace Go.Proofs.Ytfemaeacmnhdlaa
open Go.RowKit Go.Sort

instance : Inhabited Id := ⟨zeroId⟩

theorem cb_refl : ∀ l : List UInt8, Lib.compareBytes l l = 0
  | [] => rfl
  | a :: l => by
    have := cb_refl l
    simp [Lib.compareBytes, this]

theorem cb_trans : ∀ x y z : List UInt8, Lib.compareBytes x y < 0 → Lib.compareBytes y z < 0 → Lib.compareBytes x z < 0
  | [], [], _, h, _ => by simp [Lib.compareBytes] at h
  | [], _ :: _, [], _, h => by simp [Lib.compareBytes] at h
  | [], _ :: _, _ :: _, _, _ => by simp [Lib.compareBytes]
  | _ :: _, [], _, h, _ => by simp [Lib.compareBytes] at h
  | _ :: _, _ :: _, [], _, h => by simp [Lib.compareBytes] at h
  | a :: x, b :: y, c :: z, h1, h2 => by
    have ih := cb_trans x y z
    simp only [Lib.compareBytes, UInt8.lt_iff_toNat_lt] at h1 h2 ⊢
    by_cases p1 : a.toNat < b.toNat
    · by_cases q1 : b.toNat < c.toNat
      · rw [if_pos (by omega)]; omega
      · rw [if_neg q1] at h2
        by_cases q2 : c.toNat < b.toNat
        · rw [if_pos q2] at h2; omega
        · rw [if_pos (by omega)]; omega
    · rw [if_neg p1] at h1
      by_cases p2 : b.toNat < a.toNat
      · rw [if_pos p2] at h1; omega
      · rw [if_neg p2] at h1
        by_cases q1 : b.toNat < c.toNat
        · rw [if_pos (by omega)]; omega
        · rw [if_neg q1] at h2
          by_cases q2 : c.toNat < b.toNat
          · rw [if_pos q2] at h2; omega
          · rw [if_neg q2] at h2
            rw [if_neg (by omega), if_neg (by omega)]
            exact ih h1 h2

theorem cb_ntrans : ∀ x y z : List UInt8, 0 ≤ Lib.compareBytes x y → 0 ≤ Lib.compareBytes y z → 0 ≤ Lib.compareBytes x z
  | [], [], [], _, _ => by simp [Lib.compareBytes]
  | [], [], _ :: _, _, h => by simp [Lib.compareBytes] at h
  | [], _ :: _, _, h, _ => by simp [Lib.compareBytes] at h
  | _ :: _, _, [], _, _ => by simp [Lib.compareBytes]
  | _ :: _, [], _ :: _, _, h => by simp [Lib.compareBytes] at h
  | a :: x, b :: y, c :: z, h1, h2 => by
    have ih := cb_ntrans x y z
    simp only [Lib.compareBytes, UInt8.lt_iff_toNat_lt] at h1 h2 ⊢
    by_cases p1 : a.toNat < b.toNat
    · rw [if_pos p1] at h1; omega
    · rw [if_neg p1] at h1
      by_cases q1 : b.toNat < c.toNat
      · rw [if_pos q1] at h2; omega
      · rw [if_neg q1] at h2
        by_cases p2 : b.toNat < a.toNat
        · rw [if_neg (by omega), if_pos (by omega)]; omega
        · rw [if_neg p2] at h1
          by_cases q2 : c.toNat < b.toNat
          · rw [if_neg (by omega), if_pos (by omega)]; omega
          · rw [if_neg q2] at h2
            rw [if_neg (by omega), if_neg (by omega)]
            exact ih h1 h2

theorem cb_total : ∀ x y : List UInt8, 0 ≤ Lib.compareBytes x y → 0 ≤ Lib.compareBytes y x → x = y
  | [], [], _, _ => rfl
  | [], _ :: _, h, _ => by simp [Lib.compareBytes] at h
  | _ :: _, [], _, h => by simp [Lib.compareBytes] at h
  | a :: x, b :: y, h1, h2 => by
    have ih := cb_total x y
    simp only [Lib.compareBytes, UInt8.lt_iff_toNat_lt] at h1 h2
    by_cases p1 : a.toNat < b.toNat
    · rw [if_pos p1] at h1; omega
    · rw [if_neg p1] at h1
      by_cases p2 : b.toNat < a.toNat
      · rw [if_pos p2] at h2; omega
      · rw [if_neg p2] at h1
        rw [if_neg p2, if_neg p1] at h2
        rw [ih h1 h2, UInt8.toNat_inj.1 (show a.toNat = b.toNat by omega)]

theorem ltId_t (x y : Id) : ltOf cmpId x y = true ↔ Lib.compareBytes x.1 y.1 < 0 := decide_eq_true_iff
theorem ltId_f (x y : Id) : ltOf cmpId x y = false ↔ 0 ≤ Lib.compareBytes x.1 y.1 := decide_eq_false_iff_not.trans Int.not_lt

theorem ltId_swo : SWO (ltOf cmpId) where
  irrefl x := (ltId_f x x).2 (by rw [cb_refl]; exact Int.le_refl 0)
  trans x y z h1 h2 := (ltId_t x z).2 (cb_trans _ _ _ ((ltId_t x y).1 h1) ((ltId_t y z).1 h2))
  ntrans x y z h1 h2 := (ltId_f x z).2 (cb_ntrans _ _ _ ((ltId_f x y).1 h1) ((ltId_f y z).1 h2))

theorem ltId_total (x y : Id) (h1 : ltOf cmpId x y = false) (h2 : ltOf cmpId y x = false) : x = y :=
  Subtype.ext (cb_total _ _ ((ltId_f x y).1 h1) ((ltId_f y x).1 h2))

variable {α : Type} [Inhabited α]

theorem flatK_list {k : Nat} {enc : α → List Value} (hk : ∀ x, (enc x).length = k) (l : List α) : (flatK enc k l.toArray).toList = l.flatMap enc := by
  apply List.ext_getElem
  · rw [flat_len hk]; simp
  · intro t h1 h2
    have ht : t < l.length * k := by rw [← flat_len hk]; exact h2
    have k0 : 0 < k := by rcases Nat.eq_zero_or_pos k with h | h; · subst h; simp at ht
                          · exact h
    have e1 := get_flatK enc k l.toArray t (by simpa using ht)
    have hi : t / k < l.length := Nat.div_lt_of_lt_mul (by rwa [Nat.mul_comm] at ht)
    have hc : t % k < (enc l[t / k]).length := by rw [hk]; exact Nat.mod_lt _ k0
    have e2 := flat_get hk l (t / k) l[t / k] (List.getElem?_eq_getElem hi) (t % k) _ (List.getElem?_eq_getElem hc)
    rw [Nat.div_add_mod' t k, List.getElem?_eq_getElem h2] at e2
    have e3 : (flatK enc k l.toArray)[t]! = (flatK enc k l.toArray)[t]'(by simpa using h1) := getElem!_pos _ t (by simpa using h1)
    rw [Array.getElem_toList, ← e3, e1, Option.some.inj e2]
    simp [hi, getElem!_pos, hc]

theorem own_holdsK {k : Nat} {enc : α → List Value} (hk : ∀ x, (enc x).length = k) {w : World} {e : TypeId} {g n cap : Nat} {l : List α} (h : Own w e k enc (.slice (some ⟨g, 0, none⟩) n cap) l) : HoldsK enc k w g 0 l.toArray := by
  rcases h.2 with ⟨hh, _⟩ | ⟨g', cap', cur, hv, _, hg, _, _, _, ht⟩
  · cases hh
  · cases hv
    rw [← flatK_list hk] at ht
    intro j hj
    have hj' : j < (flatK enc k l.toArray).toList.length := by simpa using hj
    refine ⟨?_, by simp [World.frozen?, hg]⟩
    rw [cell_of_row w g _ cur e (0, 0) hg, Nat.zero_add]
    have e1 : (cur.toList.take (l.length * k))[j]? = (flatK enc k l.toArray).toList[j]? := by rw [ht]
    rw [List.getElem?_take, if_pos (by simpa using hj), Array.getElem?_toList, Array.getElem?_toList, Array.getElem?_eq_getElem hj] at e1
    rw [e1, getElem!_pos _ j hj]; rfl

theorem own_sortK {k : Nat} {enc : α → List Value} (hk : ∀ x, (enc x).length = k) {w : World} {e : TypeId} {g n cap q : Nat} {l m : List α} {os : Array Obj} (h : Own w e k enc (.slice (some ⟨g, 0, none⟩) n cap) l) (hm : m.length = l.length) :
    Own (sortWorldK enc k w g 0 q m.toArray os) e k enc (.slice (some ⟨g, 0, none⟩) n cap) m ∧ Fr (fun b => b = g) w (sortWorldK enc k w g 0 q m.toArray os) := by
  rcases h.2 with ⟨hh, _⟩ | ⟨g', cap', cur, hv, hb, hg, h1, h2, h3, ht⟩
  · cases hh
  · cases hv
    have hlt := heap_lt hg
    have hheap : (sortWorldK enc k w g 0 q m.toArray os).heap[g]? = some (.cells (putCells id 0 (flatK enc k m.toArray) cur) e (0, 0)) := by
      unfold sortWorldK putRowK
      rw [heap_grow_old _ _ (by simpa [putRow, mapBlock, Sort.ahead] using hlt)]
      simp [putRow, mapBlock, Sort.ahead, Array.getElem?_modify, hg, onCells]
    refine ⟨?_, ?_⟩
    · unfold Own
      rw [hm]
      refine ⟨by rw [flat_len hk, hm], .inr ⟨g, cap, _, rfl, hb, hheap, h1, h2, by simpa [putCells] using h3, ?_⟩⟩
      rw [← flatK_list hk]
      apply List.ext_getElem?
      intro j
      have hs : (flatK enc k m.toArray).size = l.length * k := by simp [hm]
      have hle : l.length * k ≤ cur.size := by rw [h3]; exact Nat.mul_le_mul_right k h1
      rw [List.getElem?_take, Array.getElem?_toList, Array.getElem?_toList]
      by_cases hj : j < l.length * k
      · have hjc : j < cur.size := by omega
        rw [if_pos hj]
        simp only [putCells, Array.getElem?_mapIdx, Array.getElem?_eq_getElem hjc, Option.map_some]
        rw [if_pos (by omega), Array.getElem?_eq_getElem (by omega)]
        exact congrArg some (getElem!_pos _ j (by omega))
      · rw [if_neg hj, Array.getElem?_eq_none (by omega)]
    · refine ⟨rfl, rfl, rfl, by simp [sortWorldK, putRowK, putRow, mapBlock, Sort.ahead], fun b hb2 hn => ?_⟩
      unfold sortWorldK putRowK
      rw [heap_grow_old _ _ (by simpa [putRow, mapBlock, Sort.ahead] using hb2)]
      have : g ≠ b := fun e => hn e.symm
      simp [putRow, mapBlock, Sort.ahead, Array.getElem?_modify, this]
end Go.Proofs.Ytfemaeacmnhdlaa
