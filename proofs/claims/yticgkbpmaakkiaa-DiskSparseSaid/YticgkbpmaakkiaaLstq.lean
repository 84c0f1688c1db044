/-
  Slices of the call's own as lists of typed elements. Program-free.
-/
import Derived.Test.YticgkbpmaakkiaaRegq
import Derived.Deep.AppendLies
namespace Go.Proofs.Yticgkbpmaakkiaa
open Go.RowKit

section
variable {P : Program} {α : Type}

/-- How elements of a type lie in memory: k cells each. -/
structure ElemOk (P : Program) (e : TypeId) (k bytes : Nat) (enc : α → List Value) : Prop where
  info : ∃ z, (P.info? e).map (fun i => (i.zero, i.size, i.bytes)) = some (some z, k, bytes) ∧ z.cells.size = k
  pos : 0 < k
  len : ∀ x, (enc x).length = k
  one : ∀ x, ∀ v ∈ enc x, v.oneCell' = true

theorem flat_len {k : Nat} {enc : α → List Value} (h : ∀ x, (enc x).length = k) : ∀ l : List α, (l.flatMap enc).length = l.length * k
  | [] => by simp
  | x :: r => by rw [List.flatMap_cons, List.length_append, flat_len h r, h x, List.length_cons, Nat.add_mul]; omega

/-- The slice v is the call's own (it starts at the head of a block) and holds l. -/
def Own (w : World) (e : TypeId) (k : Nat) (enc : α → List Value) (v : Value) (l : List α) : Prop := w.ownsRow 0 e k v l.length (l.flatMap enc)

theorem Own.nil (w : World) (e : TypeId) (k : Nat) (enc : α → List Value) : Own w e k enc (.slice none 0 0) [] := World.ownsRow_nil w 0 e k

theorem Own.fr {S : Nat → Prop} {w w' : World} (hf : Fr S w w') {e : TypeId} {k : Nat} {enc : α → List Value} {v : Value} {l : List α} (h : Own w e k enc v l) (hn : ∀ b, v.ownBlock = some b → ¬ S b) : Own w' e k enc v l :=
  ownsRow_fr hf h hn

theorem Own.lt {w : World} {e : TypeId} {k : Nat} {enc : α → List Value} {v : Value} {l : List α} (h : Own w e k enc v l) {b : Nat} (hb : v.ownBlock = some b) : b < w.heap.size := (World.ownsRow.lt h b hb).2

theorem Own.shape {w : World} {e : TypeId} {k : Nat} {enc : α → List Value} {v : Value} {l : List α} (h : Own w e k enc v l) : ∃ a cap, v = .slice a l.length cap ∧ l.length ≤ cap ∧ (a = none → l = []) ∧ (∀ ad, a = some ad → ∃ g, ad = ⟨g, 0, none⟩) := by
  rcases h.2 with ⟨rfl, h0⟩ | ⟨g, cap, cur, rfl, _, _, hc, _⟩
  · have : l = [] := List.length_eq_zero_iff.1 h0
    subst this
    exact ⟨none, 0, rfl, Nat.le_refl _, fun _ => rfl, fun _ h => by cases h⟩
  · exact ⟨_, cap, rfl, hc, fun hh => (by cases hh), fun ad h => ⟨g, by cases h; rfl⟩⟩

/-- append(v, x) where x lies in a block of its own. -/
theorem run_append_one {e : TypeId} {k bytes : Nat} {enc : α → List Value} (E : ElemOk P e k bytes enc) {t ty : TypeId} (ht : P.underlying t = some (.slice e)) {w : World} {v : Value} {l : List α} (h : Own w e k enc v l)
    {g : Nat} {x : α} (hg : w.heap[g]? = some (.cells (enc x).toArray e)) (hm : l.length + 1 ≤ maxLen) (hb : (l.length + 1) * bytes ≤ 140737488355328) :
    ∃ b cap w', (Builtin.append_ #[t, t] ty #[v, .slice (some ⟨g, 0, none⟩) 1 1]).run P w = .ok (.slice (some ⟨b, 0, none⟩) (l.length + 1) cap) w' ∧
      Own w' e k enc (.slice (some ⟨b, 0, none⟩) (l.length + 1) cap) (l ++ [x]) ∧ w.grownBy w' v.ownBlock ∧ (v.ownBlock = some b ∨ b = w.heap.size) ∧ b < w'.heap.size := by
  obtain ⟨z, hz, hzs⟩ := E.info
  obtain ⟨i, hi, hz1, hz2, hz3⟩ := info_parts hz
  obtain ⟨b, cap, w', h1, h2, h3, h4, h5⟩ := run_append_lies (P := P) w t ty 0 e i z k bytes ht hi hz1 hz2 hz3 hzs E.pos v l.length _ h ⟨g, 0, none⟩ 1 1 (enc x) (by rw [E.len x]; omega)
    (fun j u hu => by rw [Addr.add_mid, cell_of_row w g _ _ e (0, 0) hg]; simpa using hu) (E.one x) (by omega) hm hb (Nat.zero_le _) _ rfl
  refine ⟨b, cap, w', h1, ?_, h3, h4, h5⟩
  unfold Own
  rw [List.flatMap_append, List.flatMap_cons, List.flatMap_nil, List.append_nil, List.length_append]
  exact h2

/-- append(v, src...) -/
theorem run_append_many {e : TypeId} {k bytes : Nat} {enc : α → List Value} (E : ElemOk P e k bytes enc) {t ty : TypeId} (ht : P.underlying t = some (.slice e)) {w : World} {v : Value} {l : List α} (h : Own w e k enc v l)
    {g o c : Nat} {ys : List α} (hg : w.rangeAt g o (ys.flatMap enc)) (hy : ys ≠ []) (hm : l.length + ys.length ≤ maxLen) (hb : (l.length + ys.length) * bytes ≤ 140737488355328) :
    ∃ b cap w', (Builtin.append_ #[t, t] ty #[v, .slice (some ⟨g, o, none⟩) ys.length c]).run P w = .ok (.slice (some ⟨b, 0, none⟩) (l.length + ys.length) cap) w' ∧
      Own w' e k enc (.slice (some ⟨b, 0, none⟩) (l.length + ys.length) cap) (l ++ ys) ∧ w.grownBy w' v.ownBlock ∧ (v.ownBlock = some b ∨ b = w.heap.size) ∧ b < w'.heap.size := by
  obtain ⟨z, hz, hzs⟩ := E.info
  obtain ⟨i, hi, hz1, hz2, hz3⟩ := info_parts hz
  have hl := flat_len E.len ys
  obtain ⟨b, cap, w', h1, h2, h3, h4, h5⟩ := run_append_lies (P := P) w t ty 0 e i z k bytes ht hi hz1 hz2 hz3 hzs E.pos v l.length _ h ⟨g, o, none⟩ ys.length c (ys.flatMap enc) hl
    (fun j u hu => by rw [Addr.add_mid]; exact hg j u hu) (fun u hu => by obtain ⟨x, _, hx⟩ := List.mem_flatMap.1 hu; exact E.one x u hx) (by cases ys with | nil => exact absurd rfl hy | cons => simp) hm hb (Nat.zero_le _) _ rfl
  refine ⟨b, cap, w', h1, ?_, h3, h4, h5⟩
  unfold Own
  rw [List.flatMap_append, List.length_append]
  exact h2

/-- Element i of an own slice lies at i * k. -/
theorem flat_get {k : Nat} {enc : α → List Value} (hlen : ∀ x, (enc x).length = k) : ∀ (l : List α) (i : Nat) (x : α), l[i]? = some x → ∀ j u, (enc x)[j]? = some u → (l.flatMap enc)[i * k + j]? = some u
  | [], i, x, h, _, _, _ => by simp at h
  | y :: r, 0, x, h, j, u, hu => by
    simp only [List.getElem?_cons_zero, Option.some.injEq] at h
    subst h
    have hj := (List.getElem?_eq_some_iff.1 hu).1
    rw [List.flatMap_cons, Nat.zero_mul, Nat.zero_add, List.getElem?_append_left hj]
    exact hu
  | y :: r, i + 1, x, h, j, u, hu => by
    rw [List.flatMap_cons, List.getElem?_append_right (by rw [hlen y, Nat.add_mul]; omega), hlen y, show (i + 1) * k + j - k = i * k + j by rw [Nat.add_mul]; omega]
    exact flat_get hlen r i x (by simpa using h) j u hu

theorem Own.elem {e : TypeId} {k bytes : Nat} {enc : α → List Value} (E : ElemOk P e k bytes enc) {w : World} {b : Nat} {n cap : Nat} {l : List α} (h : Own w e k enc (.slice (some ⟨b, 0, none⟩) n cap) l) {i : Nat} {x : α} (hi : l[i]? = some x) :
    w.rangeAt b (i * k) (enc x) := by
  intro j u hu
  rcases h.2 with ⟨hh, _⟩ | ⟨g, cap', cur, hv, _, hg, _, _, _, htake⟩
  · cases hh
  · cases hv
    rw [cell_of_row w b _ cur e (0, 0) hg]
    have := flat_get E.len l i x hi j u hu
    rw [← htake, List.getElem?_take] at this
    split at this
    · simpa using this
    · cases this

end
end Go.Proofs.Yticgkbpmaakkiaa
