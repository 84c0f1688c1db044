/-
  The closure: one contract; what it decides.
-/
import Derived.Test.YtfemaeacmnhdlaaV5
namespace Go.Proofs.Ytfemaeacmnhdlaa
open Go.RowKit

theorem aget_mem {K V : Type} [DecidableEq K] {k : K} {v : V} : ∀ {l : List (K × V)}, aget k l = some v → k ∈ l.map (·.1)
  | [], h => by cases h
  | x :: r, h => by
    unfold aget at h
    split at h
    · rename_i e; simp [e]
    · exact List.mem_cons_of_mem _ (aget_mem h)

theorem is_c (b13 b7 b14 b8 b5 ms mr ml : Nat) (rows : Id → Option Row) (lost : Id → Bool) (now : Int) (lr : List (Id × Row)) : ∀ (n : Nat) (r : Row) (st : St) (lst : List (Id × Int)) (w : World),
    Env w b13 b7 b14 b8 b5 ms mr ml rows lost now lr → rows r.id = some r → MapAt w ms idK intV lst → aget_ok lst st → und lr st < n →
    Calls Try.prog 107 #[rowV r, .pointer (some ⟨b13, 0, none⟩), .pointer (some ⟨b7, 0, none⟩), .pointer (some ⟨b14, 0, none⟩), .pointer (some ⟨b8, 0, none⟩), .pointer (some ⟨b5, 0, none⟩)] w fun e w' => IsTo w w' ms e (isF rows lost now n r st) := by
  intro n
  induction n with
  | zero => intro r st lst w _ _ _ _ h; omega
  | succ n ih =>
    intro r st lst w hE hr hm ho hn
    by_cases hz : st r.id = 0
    · by_cases hne : r.refs.length = 0
      · exact is_B1 b13 b7 b14 b8 b5 ms mr ml rows lost now lr n r st lst w hE hr hm ho hz (List.length_eq_zero_iff.1 hne)
      · obtain ⟨q, hq⟩ : ∃ q, r.refs.getLast? = some q := by
          rw [List.getLast?_eq_getElem?]; exact ⟨_, List.getElem?_eq_getElem (by omega)⟩
        cases hrq : rows q with
        | none =>
          cases hl : lost q with
          | true => exact is_B2n b13 b7 b14 b8 b5 ms mr ml rows lost now lr n r st lst w hE hr hm ho hz hne (fun q' h => by rw [hq] at h; cases h; exact ⟨hrq, hl⟩)
          | false => exact is_B2f b13 b7 b14 b8 b5 ms mr ml rows lost now lr n r st lst w hE hr hm ho hz hne (fun q' h => by rw [hq] at h; cases h; exact ⟨hrq, hl⟩)
        | some rq =>
          have hid := (hE.good q rq hrq).1
          refine is_B2a b13 b7 b14 b8 b5 ms mr ml rows lost now lr n r st lst w hE hr hm ho rq hz hne (fun q' h => by rw [hq] at h; cases h; exact hrq) (fun W l hW hmW hoW => ih rq _ l W hW (by rw [hid]; exact hrq) hmW hoW ?_)
          have := und_upd (lr := lr) st r.id 1 (by decide) hz (aget_mem ((hE.hrows.2 r.id).trans hr))
          omega
    · exact is_A b13 b7 b14 b8 b5 ms mr ml rows lost now lr n r st lst w hE hr hm ho hz

/-! ### what is shown -/
inductive Sh (rows : Id → Option Row) (lost : Id → Bool) (now : Int) : Id → Prop
  | root {x : Id} {r : Row} : rows x = some r → r.refs.getLast? = none → Sh rows lost now x
  | hole {x q : Id} {r : Row} : rows x = some r → r.refs.getLast? = some q → rows q = none → (lost q = true ∨ r.date + 2880 ≤ now) → Sh rows lost now x
  | ans {x q : Id} {r rq : Row} : rows x = some r → r.refs.getLast? = some q → rows q = some rq → Sh rows lost now q → Sh rows lost now x

/-- x answers the row y. -/
def Asks (rows : Id → Option Row) (x y : Id) : Prop := ∃ r rq, rows x = some r ∧ r.refs.getLast? = some y ∧ rows y = some rq
/-- .. over one or more steps -/
inductive Up (rows : Id → Option Row) : Id → Id → Prop
  | one {x y : Id} : Asks rows x y → Up rows x y
  | step {x y z : Id} : Asks rows x y → Up rows y z → Up rows x z
theorem Up.snoc {rows : Id → Option Row} {x y z : Id} (h : Up rows x y) (k : Asks rows y z) : Up rows x z := by
  induction h with
  | one h => exact .step h (.one k)
  | step h _ ih => exact .step h (ih k)
theorem Asks.same {rows : Id → Option Row} {x y z : Id} (h : Asks rows x y) (k : Asks rows x z) : y = z := by
  obtain ⟨r, _, h1, h2, _⟩ := h
  obtain ⟨r', _, k1, k2, _⟩ := k
  rw [h1] at k1; cases k1
  rw [h2] at k2; cases k2
  rfl
theorem sh_no_cycle {rows : Id → Option Row} {lost : Id → Bool} {now : Int} {x : Id} (h : Sh rows lost now x) : ¬ Up rows x x := by
  induction h with
  | @root x r h1 h2 =>
    intro hu
    have : ∃ y, Asks rows x y := by cases hu with | one h => exact ⟨_, h⟩ | step h _ => exact ⟨_, h⟩
    obtain ⟨y, r', _, k1, k2, _⟩ := this
    rw [h1] at k1; cases k1; rw [h2] at k2; cases k2
  | @hole x q r h1 h2 h3 _ =>
    intro hu
    have : ∃ y, Asks rows x y := by cases hu with | one h => exact ⟨_, h⟩ | step h _ => exact ⟨_, h⟩
    obtain ⟨y, r', rq, k1, k2, k3⟩ := this
    rw [h1] at k1; cases k1; rw [h2] at k2; cases k2; rw [h3] at k3; cases k3
  | @ans x q r rq h1 h2 h3 _ ih =>
    intro hu
    have hxq : Asks rows x q := ⟨r, rq, h1, h2, h3⟩
    cases hu with
    | one h =>
      have e := hxq.same h
      subst e
      exact ih (.one hxq)
    | step h k =>
      have e := hxq.same h
      subst e
      exact ih (k.snoc hxq)

structure Inv (rows : Id → Option Row) (lost : Id → Bool) (now : Int) (st : St) : Prop where
  yes : ∀ x, st x = 3 → Sh rows lost now x
  no : ∀ x, st x = 2 → ¬ Sh rows lost now x
  val : ∀ x, st x = 0 ∨ st x = 1 ∨ st x = 2 ∨ st x = 3

theorem Inv.up {rows : Id → Option Row} {lost : Id → Bool} {now : Int} {st : St} (h : Inv rows lost now st) (x : Id) : Inv rows lost now (upd st x 1) := by
  refine ⟨fun y hy => ?_, fun y hy => ?_, fun y => ?_⟩
  · unfold upd at hy
    split at hy
    · cases hy
    · exact h.yes y hy
  · unfold upd at hy
    split at hy
    · cases hy
    · exact h.no y hy
  · unfold upd
    split
    · exact .inr (.inl rfl)
    · exact h.val y

theorem isF_sem (rows : Id → Option Row) (lost : Id → Bool) (now : Int) (lr : List (Id × Row)) (hrow : ∀ x, aget x lr = rows x) (hid : ∀ x r, rows x = some r → r.id = x) : ∀ (n : Nat) (r : Row) (st : St),
    rows r.id = some r → und lr st < n → Inv rows lost now st → (∀ x, st x = 1 → Up rows x r.id) →
    ((isF rows lost now n r st).1 = true ↔ Sh rows lost now r.id) ∧ Inv rows lost now (isF rows lost now n r st).2 ∧ ∀ x, (isF rows lost now n r st).2 x = 1 ↔ st x = 1 := by
  intro n
  induction n with
  | zero => intro r st _ h; omega
  | succ n ih =>
    intro r st hr hn hi hp
    by_cases hz : st r.id = 0
    · -- undecided
      have key : ∀ (y : Bool) (st2 : St), (match r.refs.getLast? with
          | none => (true, upd st r.id 1)
          | some q => match rows q with
            | some rq => isF rows lost now n rq (upd st r.id 1)
            | none => (lost q || decide (r.date + 2880 ≤ now), upd st r.id 1)) = (y, st2) → (y = true ↔ Sh rows lost now r.id) → Inv rows lost now st2 → (∀ x, st2 x = 1 ↔ upd st r.id 1 x = 1) →
          ((isF rows lost now (n + 1) r st).1 = true ↔ Sh rows lost now r.id) ∧ Inv rows lost now (isF rows lost now (n + 1) r st).2 ∧ ∀ x, (isF rows lost now (n + 1) r st).2 x = 1 ↔ st x = 1 := by
        intro y st2 hq hy hi2 h1
        rw [isF_end rows lost now n r st hz y st2 hq]
        have h1' : ∀ x, x ≠ r.id → (st2 x = 1 ↔ st x = 1) := fun x hx => by
          rw [h1 x]; unfold upd; rw [if_neg hx]
        cases y with
        | true =>
          refine ⟨hy, ⟨fun x hx => ?_, fun x hx => ?_, fun x => ?_⟩, fun x => ?_⟩
          · simp only [if_true, upd] at hx
            split at hx
            · rename_i e; rw [e]; exact hy.1 rfl
            · exact hi2.yes x hx
          · simp only [if_true, upd] at hx
            split at hx
            · cases hx
            · exact hi2.no x hx
          · simp only [if_true, upd]
            split
            · exact .inr (.inr (.inr rfl))
            · exact hi2.val x
          · simp only [if_true, upd]
            split
            · rename_i e; rw [e, hz]; decide
            · rename_i e; exact h1' x e
        | false =>
          refine ⟨hy, ⟨fun x hx => ?_, fun x hx => ?_, fun x => ?_⟩, fun x => ?_⟩
          · simp only [Bool.false_eq_true, if_false, upd] at hx
            split at hx
            · cases hx
            · exact hi2.yes x hx
          · simp only [Bool.false_eq_true, if_false, upd] at hx
            split at hx
            · rename_i e; rw [e]; intro hs; exact absurd (hy.2 hs) (by decide)
            · exact hi2.no x hx
          · simp only [Bool.false_eq_true, if_false, upd]
            split
            · exact .inr (.inr (.inl rfl))
            · exact hi2.val x
          · simp only [Bool.false_eq_true, if_false, upd]
            split
            · rename_i e; rw [e, hz]; decide
            · rename_i e; exact h1' x e
      cases hl : r.refs.getLast? with
      | none => exact key true _ (by rw [hl]) ⟨fun _ => .root hr hl, fun _ => rfl⟩ (hi.up _) (fun x => Iff.rfl)
      | some q =>
        cases hrq : rows q with
        | none =>
          refine key (lost q || decide (r.date + 2880 ≤ now)) _ (by rw [hl]; simp only [hrq]) ⟨fun h => .hole hr hl hrq (by simpa using h), fun h => ?_⟩ (hi.up _) (fun x => Iff.rfl)
          cases h with
          | root h1 h2 => rw [hr] at h1; cases h1; rw [hl] at h2; cases h2
          | hole h1 h2 h3 h4 => rw [hr] at h1; cases h1; rw [hl] at h2; cases h2; simpa using h4
          | ans h1 h2 h3 _ => rw [hr] at h1; cases h1; rw [hl] at h2; cases h2; rw [hrq] at h3; cases h3
        | some rq =>
          have hq := hid q rq hrq
          have hask : Asks rows r.id q := ⟨r, rq, hr, hl, hrq⟩
          have hu := und_upd (lr := lr) st r.id 1 (by decide) hz (aget_mem ((hrow r.id).trans hr))
          obtain ⟨a1, a2, a3⟩ := ih rq (upd st r.id 1) (by rw [hq]; exact hrq) (by omega) (hi.up _) (fun x hx => by
            rw [hq]
            unfold upd at hx
            split at hx
            · rename_i e; rw [e]; exact .one hask
            · exact (hp x hx).snoc hask)
          rw [hq] at a1
          refine key _ _ (by rw [hl]; simp only [hrq]) (a1.trans ⟨fun h => .ans hr hl hrq h, fun h => ?_⟩) a2 a3
          cases h with
          | root h1 h2 => rw [hr] at h1; cases h1; rw [hl] at h2; cases h2
          | hole h1 h2 h3 _ => rw [hr] at h1; cases h1; rw [hl] at h2; cases h2; rw [hrq] at h3; cases h3
          | ans h1 h2 h3 h4 => rw [hr] at h1; cases h1; rw [hl] at h2; cases h2; exact h4
    · -- decided, or under way
      rw [isF_dec rows lost now n r st hz]
      refine ⟨?_, hi, fun x => Iff.rfl⟩
      rcases hi.val r.id with h | h | h | h
      · exact absurd h hz
      · rw [h]
        exact ⟨fun hh => by simp at hh, fun hs => absurd (hp r.id h) (sh_no_cycle hs)⟩
      · rw [h]
        exact ⟨fun hh => by simp at hh, fun hs => absurd hs (hi.no r.id h)⟩
      · rw [h]
        exact ⟨fun _ => hi.yes r.id h, fun _ => rfl⟩
end Go.Proofs.Ytfemaeacmnhdlaa
