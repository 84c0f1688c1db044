/-
  Maps as association lists: a map's block read by an encoding of its keys and one of its values; look-up, store, delete as equations on the operations' runs. Program-free.
-/
import Derived.Test.YticgkbpmaakkiaaFrq
import Derived.MapKept
import Derived.WideKeyRuns
import Derived.DeepKeys3
import Derived.Carry
namespace Go.Proofs.Yticgkbpmaakkiaa
open Go.RowKit

section lists
variable {K V : Type} [DecidableEq K]

def aget (k : K) : List (K × V) → Option V
  | [] => none
  | x :: r => if x.1 = k then some x.2 else aget k r
def aput (k : K) (v : V) : List (K × V) → List (K × V)
  | [] => [(k, v)]
  | x :: r => if x.1 = k then (k, v) :: r else x :: aput k v r
def adel (k : K) : List (K × V) → List (K × V)
  | [] => []
  | x :: r => if x.1 = k then r else x :: adel k r

theorem aget_none {k : K} : ∀ {l : List (K × V)}, aget k l = none ↔ k ∉ l.map (·.1)
  | [] => by simp [aget]
  | x :: r => by
    by_cases h : x.1 = k
    · subst h; simp [aget]
    · have := aget_none (k := k) (l := r)
      simp only [aget, if_neg h, this, List.map_cons, List.mem_cons, not_or]
      exact ⟨fun hh => ⟨fun e => h e.symm, hh⟩, fun hh => hh.2⟩

theorem aget_some {k : K} {v : V} : ∀ {l : List (K × V)}, (l.map (·.1)).Nodup → (aget k l = some v ↔ (k, v) ∈ l)
  | [], _ => by simp [aget]
  | x :: r, hn => by
    simp only [List.map_cons, List.nodup_cons] at hn
    by_cases h : x.1 = k
    · subst h
      simp only [aget, if_true, Option.some.injEq, List.mem_cons]
      constructor
      · rintro rfl; exact .inl rfl
      · rintro (h | h)
        · rw [← h]
        · exact absurd (List.mem_map_of_mem (f := (·.1)) h) hn.1
    · simp only [aget, if_neg h, aget_some (k := k) (v := v) hn.2, List.mem_cons]
      exact ⟨fun hh => .inr hh, fun hh => hh.elim (fun e => absurd (by rw [← e]) h) id⟩

theorem aget_aput (k k' : K) (v : V) : ∀ (l : List (K × V)), aget k' (aput k v l) = if k' = k then some v else aget k' l
  | [] => by simp only [aput, aget]; by_cases h : k = k' <;> simp [h, eq_comm]
  | x :: r => by
    by_cases h : x.1 = k
    · subst h
      simp only [aput, if_true, aget]
      by_cases h' : x.1 = k'
      · simp [h']
      · simp [h', show ¬ k' = x.1 from fun e => h' e.symm]
    · simp only [aput, if_neg h, aget, aget_aput k k' v r]
      by_cases h' : x.1 = k'
      · subst h'; simp [h]
      · simp [h']

theorem aget_adel (k k' : K) : ∀ (l : List (K × V)), (l.map (·.1)).Nodup → aget k' (adel k l) = if k' = k then none else aget k' l
  | [], _ => by simp [adel, aget]
  | x :: r, hn => by
    simp only [List.map_cons, List.nodup_cons] at hn
    by_cases h : x.1 = k
    · subst h
      simp only [adel, if_true, aget]
      by_cases h' : x.1 = k'
      · subst h'; simp only [if_true]; exact aget_none.2 hn.1
      · simp [h', show ¬ k' = x.1 from fun e => h' e.symm]
    · simp only [adel, if_neg h, aget, aget_adel k k' r hn.2]
      by_cases h' : x.1 = k'
      · subst h'; simp [h]
      · simp [h']

theorem keys_aput (k : K) (v : V) : ∀ (l : List (K × V)), (aput k v l).map (·.1) = if k ∈ l.map (·.1) then l.map (·.1) else l.map (·.1) ++ [k]
  | [] => by simp [aput]
  | x :: r => by
    by_cases h : x.1 = k
    · subst h; simp [aput]
    · have := keys_aput k v r
      simp only [aput, if_neg h, List.map_cons, this, List.mem_cons, show ¬ k = x.1 from fun e => h e.symm, false_or]
      split <;> simp

theorem nodup_aput (k : K) (v : V) {l : List (K × V)} (h : (l.map (·.1)).Nodup) : ((aput k v l).map (·.1)).Nodup := by
  rw [keys_aput]
  split
  · exact h
  · rename_i hk
    exact List.nodup_append.2 ⟨h, by simp, by intro a ha b hb e; simp at hb; subst hb; subst e; exact hk ha⟩

theorem keys_adel_sub (k : K) : ∀ (l : List (K × V)), ∀ x ∈ adel k l, x ∈ l
  | [], x, h => h
  | y :: r, x, h => by
    unfold adel at h
    split at h
    · exact List.mem_cons_of_mem _ h
    · rcases List.mem_cons.1 h with rfl | h
      · exact List.mem_cons_self ..
      · exact List.mem_cons_of_mem _ (keys_adel_sub k r x h)

theorem nodup_adel (k : K) : ∀ {l : List (K × V)}, (l.map (·.1)).Nodup → ((adel k l).map (·.1)).Nodup
  | [], h => h
  | x :: r, h => by
    simp only [List.map_cons, List.nodup_cons] at h
    unfold adel
    split
    · exact h.2
    · simp only [List.map_cons, List.nodup_cons]
      refine ⟨fun hm => ?_, nodup_adel k h.2⟩
      obtain ⟨y, hy, e⟩ := List.mem_map.1 hm
      exact h.1 (e ▸ List.mem_map_of_mem (keys_adel_sub k r y hy))

theorem length_aput (k : K) (v : V) : ∀ (l : List (K × V)), (aput k v l).length ≤ l.length + 1
  | [] => by simp [aput]
  | x :: r => by
    unfold aput
    split
    · simp
    · have := length_aput k v r; simp; omega

/-- the first place of a key -/
def afind (k : K) : List (K × V) → Nat → Option (Nat × V)
  | [], _ => none
  | x :: r, i => if x.1 = k then some (i, x.2) else afind k r (i + 1)

theorem afind_get (k : K) : ∀ (l : List (K × V)) (i : Nat), (afind k l i).map (·.2) = aget k l
  | [], _ => rfl
  | x :: r, i => by
    unfold afind aget
    split
    · rfl
    · exact afind_get k r (i + 1)
end lists

/-! ### keys: what a look-up comes to -/
/-- The key type's law: finding a key among entries is comparing what the keys encode. -/
structure KeyOk (P : Program) (kt : TypeId) {K : Type} [DecidableEq K] (enc : K → Value) : Prop where
  find : ∀ (k : K) (l : List (K × Value)) (es : List MapEntry), es.map (fun e => (e.key, e.val)) = l.map (fun x => (enc x.1, x.2)) → ∀ w, (Instr.findKey kt (enc k) es).run P w = .ok (afind k l 0) w
  check : ∀ (b : Bool) (k : K) (w : World), (Instr.checkKey b 10000 kt (enc k)).run P w = .ok () w
  stays : ∀ (k : K) (w : World), (Instr.keyThatStays (enc k) (enc k)).run P w = .ok (enc k) w

theorem findNow_int {q : IntKind} (k : Int) : ∀ (es : List MapEntry) (l : List (Int × Value)) (i : Nat), es.map (fun e => (e.key, e.val)) = l.map (fun x => (Value.int q x.1, x.2)) →
    Instr.findNow (.int q) (.int q k) es i = some (afind k l i)
  | [], l, i, h => by
    have : l = [] := by simpa using h.symm
    subst this; rfl
  | e :: es, [], i, h => by simp at h
  | e :: es, x :: l, i, h => by
    simp only [List.map_cons, List.cons.injEq, Prod.mk.injEq] at h
    obtain ⟨⟨h1, h2⟩, h3⟩ := h
    unfold Instr.findNow
    rw [h1]
    simp only [Instr.sameNow, if_true]
    by_cases hk : x.1 = k
    · subst hk
      simp [afind, h2]
    · have hk' : ¬ k = x.1 := fun e => hk e.symm
      simp only [afind, if_neg hk]
      rw [show (k == x.1) = false by simpa using hk']
      exact findNow_int k es l (i + 1) h3

theorem keyOk_int {P : Program} {kt : TypeId} {q : IntKind} (hk : P.underlying kt = some (.int q)) : KeyOk P kt (fun n : Int => Value.int q n) where
  find := by
    intro k l es h w
    exact MapKept.run_findKey hk (findNow_int k es l 0 h)
  check := by
    intro b k w
    show (Instr.checkKey b (9999 + 1) kt (.int q k)).run P w = .ok () w
    unfold Instr.checkKey
    simp [run_underlying hk]
  stays := by
    intro k w
    unfold Instr.keyThatStays
    rw [if_pos]
    · rfl
    · show Instr.sameBits (9999 + 1) (.int q k) (.int q k) = true
      unfold Instr.sameBits
      simp

/-! ### the map's block -/
/-- Block m of w is a map whose entries, in the order of the block, are l. -/
structure MapAt (w : World) (m : Nat) {K V : Type} (enc : K → Value) (venc : V → Value) (l : List (K × V)) : Prop where
  ex : ∃ es clock, w.heap[m]? = some (.map es clock) ∧ es.toList.map (fun e => (e.key, e.val)) = l.map (fun x => (enc x.1, venc x.2)) ∧
    (es.toList.map (·.born)).Nodup ∧ ∀ e ∈ es.toList, e.born < clock
  nodup : (l.map (·.1)).Nodup

section runs
variable {P : Program} {K V : Type} {enc : K → Value} {venc : V → Value} {w : World} {m : Nat} {l : List (K × V)}

theorem MapAt.lt (h : MapAt w m enc venc l) : m < w.heap.size := by
  obtain ⟨es, clock, hb, _⟩ := h.ex; exact heap_lt hb

theorem MapAt.fr {S : Nat → Prop} {w' : World} (h : MapAt w m enc venc l) (hf : Fr S w w') (hn : ¬ S m) : MapAt w' m enc venc l := by
  obtain ⟨es, clock, hb, r⟩ := h.ex
  exact ⟨⟨es, clock, hf.keep hb hn, r⟩, h.nodup⟩

theorem MapAt.same {w' : World} (h : MapAt w m enc venc l) (hf : w'.heap[m]? = w.heap[m]?) : MapAt w' m enc venc l := by
  obtain ⟨es, clock, hb, r⟩ := h.ex
  exact ⟨⟨es, clock, hf.trans hb, r⟩, h.nodup⟩

theorem MapAt.drew (h : MapAt w m enc venc l) : MapAt w.drew m enc venc l := ⟨h.ex, h.nodup⟩

theorem MapAt.made (w : World) (enc : K → Value) (venc : V → Value) : MapAt (w.alloc (.map #[] 0)) w.heap.size enc venc [] :=
  ⟨⟨#[], 0, heap_alloc_new w _, by simp, by simp, by simp⟩, by simp⟩

theorem pairs_of {es : List MapEntry} (h : es.map (fun e => (e.key, e.val)) = l.map (fun x => (enc x.1, venc x.2))) :
    es.map (fun e => (e.key, e.val)) = (l.map fun x => (x.1, venc x.2)).map (fun x => (enc x.1, x.2)) := by
  rw [h, List.map_map]; rfl

variable [DecidableEq K]

theorem afind_map (k : K) : ∀ (l : List (K × V)) (i : Nat), afind k (l.map fun x => (x.1, venc x.2)) i = (afind k l i).map (fun p => (p.1, venc p.2))
  | [], _ => rfl
  | x :: r, i => by
    simp only [List.map_cons, afind]
    split
    · rfl
    · exact afind_map k r (i + 1)

theorem afind_shift (k : K) : ∀ (l : List (K × V)) (i j : Nat), afind k l (i + j) = (afind k l i).map (fun p => (p.1 + j, p.2))
  | [], _, _ => rfl
  | x :: r, i, j => by
    unfold afind
    split
    · rfl
    · rw [show i + j + 1 = (i + 1) + j by omega]; exact afind_shift k r (i + 1) j

theorem run_getObj_map {es : Array MapEntry} {clock : Nat} (hb : w.heap[m]? = some (.map es clock)) : (getObj m).run P w = .ok (.map es clock) w := by
  simp [getObj, Sem.run, hb]
theorem run_setObj_map {es : Array MapEntry} {clock : Nat} (o : Obj) (hb : w.heap[m]? = some (.map es clock)) : (setObj m o).run P w = .ok () (w.putObj m o) := by
  simp [setObj, Sem.run, hb, World.putObj]

theorem zeroed {e : TypeId} {z : Value} (hz : (zeroValue e).run P w = .ok z w) : (zeroValue e).run P w = .ok z w := hz

/-- 'm[k]', 'v, ok := m[k]' -/
theorem run_lookup (h : MapAt w m enc venc l) {t kt et : TypeId} (hK : KeyOk P kt enc) (ht : P.underlying t = some (.map kt et)) {z : Value} (hz : (zeroValue et).run P w = .ok z w) (k : K) (ok : Bool) :
    (Instr.lookup t (.map (some m)) (enc k) ok).run P w = .ok (if ok then .tuple #[((aget k l).map venc).getD z, .bool (aget k l).isSome] else ((aget k l).map venc).getD z) w := by
  obtain ⟨es, clock, hb, hl, _⟩ := h.ex
  have hf := hK.find k _ es.toList (pairs_of hl) w
  rw [afind_map] at hf
  have hg := afind_get k l 0
  unfold Instr.lookup
  simp only [Sem.run_bind, run_underlying ht, Result.andThen_ok, run_getObj_map hb, Sem.run_pure, hK.check, hf]
  cases ha : afind k l 0 with
  | none =>
    rw [ha] at hg
    simp only [Option.map_none] at hg
    rw [← hg]
    simp only [Option.map_none, Sem.run_bind, hz, Result.andThen_ok, Sem.run_pure, Option.getD_none, Option.isSome_none]
  | some p =>
    rw [ha] at hg
    simp only [Option.map_some] at hg
    rw [← hg]
    simp only [Option.map_some, Sem.run_bind, Sem.run_pure, Result.andThen_ok, Option.getD_some, Option.isSome_some]

/-- The look-up in a nil map. -/
theorem run_lookup_nil {t kt et : TypeId} (hK : KeyOk P kt enc) (ht : P.underlying t = some (.map kt et)) {z : Value} (hz : (zeroValue et).run P w = .ok z w) (k : K) (ok : Bool) :
    (Instr.lookup t (.map none) (enc k) ok).run P w = .ok (if ok then .tuple #[z, .bool false] else z) w := by
  have hf := hK.find k [] [] rfl w
  unfold Instr.lookup
  simp only [afind] at hf
  simp only [Sem.run_bind, run_underlying ht, Result.andThen_ok, Sem.run_pure, hK.check, hf, hz]

theorem afind_put (k : K) (v : V) : ∀ (l : List (K × V)) (i : Nat), (∀ p, afind k l i = some p → i ≤ p.1 ∧ (l[p.1 - i]?).map (·.1) = some k ∧ aput k v l = l.set (p.1 - i) (k, v) ∧ adel k l = l.eraseIdx (p.1 - i)) ∧ (afind k l i = none → aput k v l = l ++ [(k, v)] ∧ adel k l = l)
  | [], i => ⟨fun p h => by simp [afind] at h, fun _ => ⟨rfl, rfl⟩⟩
  | x :: r, i => by
    obtain ⟨h1, h2⟩ := afind_put k v r (i + 1)
    unfold afind
    split
    · rename_i hx
      refine ⟨fun p hp => ?_, fun hp => by cases hp⟩
      cases hp
      simp [aput, adel, hx]
    · rename_i hx
      refine ⟨fun p hp => ?_, fun hp => ?_⟩
      · obtain ⟨h3, h4, h5, h6⟩ := h1 p hp
        have e : p.1 - i = (p.1 - (i + 1)) + 1 := by omega
        refine ⟨by omega, ?_, ?_, ?_⟩
        · rw [e]; simpa using h4
        · rw [e]; simp [aput, hx, h5]
        · rw [e]; simp [adel, hx, h6]
      · obtain ⟨h3, h4⟩ := h2 hp
        simp [aput, adel, hx, h3, h4]

theorem map_modify {α β : Type} (f : α → β) (g : α → α) (l : List α) (i : Nat) (b : β) (h : ∀ a, l[i]? = some a → f (g a) = b) : (l.modify i g).map f = (l.map f).set i b := by
  apply List.ext_getElem?
  intro j
  simp only [List.getElem?_map, List.getElem?_modify, List.getElem?_set, List.length_map]
  by_cases hj : i = j
  · subst hj
    simp only [if_true]
    cases hl : l[i]? with
    | none => simp [List.getElem?_eq_none_iff.1 hl]
    | some a => simp [h a hl, (List.getElem?_eq_some_iff.1 hl).1]
  · simp [hj]

/-- 'm[k] = v' -/
theorem run_update (h : MapAt w m enc venc l) {t kt et : TypeId} (hK : KeyOk P kt enc) (ht : P.underlying t = some (.map kt et)) (k : K) (v : V) :
    ∃ o, (Instr.mapUpdate t (.map (some m)) (enc k) (venc v)).run P w = .ok () (w.putObj m o) ∧ MapAt (w.putObj m o) m enc venc (aput k v l) := by
  obtain ⟨es, clock, hb, hl, hn, hc⟩ := h.ex
  have hf := hK.find k _ es.toList (pairs_of hl) w
  rw [afind_map] at hf
  have hm := heap_lt hb
  obtain ⟨hp1, hp2⟩ := afind_put k v l 0
  unfold Instr.mapUpdate
  simp only [Sem.run_bind, run_underlying ht, Result.andThen_ok, run_getObj_map hb, hK.check, hf]
  cases ha : afind k l 0 with
  | none =>
    obtain ⟨e1, _⟩ := hp2 ha
    simp only [Option.map_none, run_setObj_map _ hb]
    refine ⟨_, rfl, ⟨⟨_, _, World.putObj_heap_same hm, ?_, ?_, ?_⟩, nodup_aput k v h.nodup⟩⟩
    · rw [e1]; simp [hl]
    · simp only [Array.toList_push, List.map_append, List.map_cons, List.map_nil]
      refine List.nodup_append.2 ⟨hn, by simp, ?_⟩
      intro a ha b hb' e
      simp at hb'
      subst hb'; subst e
      obtain ⟨y, hy, e2⟩ := List.mem_map.1 ha
      have := hc y hy
      omega
    · intro e he
      simp only [Array.toList_push, List.mem_append, List.mem_singleton] at he
      rcases he with he | rfl
      · have := hc e he; omega
      · simp
  | some p =>
    obtain ⟨_, e0, e1, _⟩ := hp1 p ha
    simp only [Nat.sub_zero] at e0 e1
    have hkey : ((es[p.1]?).map (·.key)) = some (enc k) := by
      have := congrArg (fun l => (l[p.1]?).map (·.1)) hl
      simp only [List.getElem?_map, Option.map_map] at this
      obtain ⟨y, hy, hy2⟩ := Option.map_eq_some_iff.1 e0
      rw [hy] at this
      simp only [Option.map_some, Function.comp_def, hy2] at this
      simpa using this
    simp only [Option.map_some, Sem.run_bind, hkey, Option.getD_some, hK.stays, Result.andThen_ok, run_setObj_map _ hb]
    refine ⟨_, rfl, ⟨⟨_, _, World.putObj_heap_same hm, ?_, ?_, ?_⟩, nodup_aput k v h.nodup⟩⟩
    · rw [e1, Array.toList_modify, map_modify (fun e : MapEntry => (e.key, e.val)) (fun e => { e with key := enc k, val := venc v }) _ _ (enc k, venc v) (fun _ _ => rfl), hl]
      simp [List.map_set]
    · rw [Array.toList_modify]
      have : (es.toList.modify p.1 fun e => { e with key := enc k, val := venc v }).map (·.born) = es.toList.map (·.born) := by
        apply List.ext_getElem?
        intro j
        simp only [List.getElem?_map, List.getElem?_modify]
        split <;> (cases es.toList[j]? <;> rfl)
      rw [this]; exact hn
    · intro e he
      rw [Array.toList_modify] at he
      obtain ⟨j, hj⟩ := List.getElem?_of_mem he
      simp only [List.getElem?_modify] at hj
      obtain ⟨y, hy, hy2⟩ := Option.map_eq_some_iff.1 hj
      have hy3 := hc y (List.mem_of_getElem? hy)
      rw [← hy2]
      split <;> exact hy3

theorem map_eraseIdx {α β : Type} (f : α → β) (l : List α) (i : Nat) : (l.eraseIdx i).map f = (l.map f).eraseIdx i := by
  induction l generalizing i with
  | nil => simp
  | cons x r ih => cases i <;> simp [ih]

/-- 'delete(m, k)' -/
theorem run_delete (h : MapAt w m enc venc l) {t kt et : TypeId} {ty : TypeId} {kt' : TypeId} (hK : KeyOk P kt enc) (ht : P.underlying t = some (.map kt et)) (k : K) :
    ∃ o, (Builtin.delete_ #[t, kt'] ty #[.map (some m), enc k]).run P w = .ok (.tuple #[]) (w.putObj m o) ∧ MapAt (w.putObj m o) m enc venc (adel k l) := by
  obtain ⟨es, clock, hb, hl, hn, hc⟩ := h.ex
  have hf := hK.find k _ es.toList (pairs_of hl) w
  rw [afind_map] at hf
  have hm := heap_lt hb
  unfold Builtin.delete_
  simp only [List.getElem?_toArray, List.getElem?_cons_zero, List.getElem?_cons_succ]
  simp only [Sem.run_bind, run_underlying ht, Result.andThen_ok, run_getObj_map hb, hK.check, hf]
  cases ha : afind k l 0 with
  | none =>
    have e1 : adel k l = l := by
      cases l with
      | nil => rfl
      | cons x r => exact ((afind_put k x.2 (x :: r) 0).2 ha).2
    simp only [Option.map_none, Sem.run_bind, run_setObj_map _ hb, Result.andThen_ok, Sem.run_pure]
    exact ⟨_, rfl, ⟨⟨_, _, World.putObj_heap_same hm, by rw [e1]; exact hl, hn, hc⟩, by rw [e1]; exact h.nodup⟩⟩
  | some p =>
    have e1 : adel k l = l.eraseIdx p.1 := by
      have := ((afind_put k p.2 l 0).1 p ha).2.2.2
      simpa using this
    simp only [Option.map_some, Sem.run_bind, run_setObj_map _ hb, Result.andThen_ok, Sem.run_pure]
    refine ⟨_, rfl, ⟨⟨_, _, World.putObj_heap_same hm, ?_, ?_, ?_⟩, nodup_adel k h.nodup⟩⟩
    · rw [e1, Array.toList_eraseIdxIfInBounds, map_eraseIdx, map_eraseIdx, hl]
    · rw [Array.toList_eraseIdxIfInBounds, map_eraseIdx]
      exact hn.sublist (List.eraseIdx_sublist _ _)
    · intro e he
      rw [Array.toList_eraseIdxIfInBounds] at he
      exact hc e (List.mem_of_mem_eraseIdx he)
end runs
end Go.Proofs.Yticgkbpmaakkiaa
