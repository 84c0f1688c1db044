/-
  Equal and Same at any two devices; when they say the same.
-/
import Derived.Test.YticgkbpmaakkiaaDm3q
namespace Go.Proofs.Yticgkbpmaakkiaa
open Go.RowKit

/-- No zero sector is stored, and none outside the device. -/
def Clean (D : Dsk) : Prop := ∀ k s, D.dur k = some s → s ≠ zeroSec ∧ 0 ≤ k ∧ k < D.n
theorem clean_fresh (n : Int) : Clean (Dsk.fresh n) := fun k s h => by cases h
theorem Clean.store {D : Dsk} (h : Clean D) {k : Int} (s : Sec) (h0 : 0 ≤ k) (h1 : k < D.n) : Clean (D.store k s) := by
  intro j t ht
  have ht : (if j = k then (if s = zeroSec then none else some s) else D.dur j) = some t := ht
  split at ht
  · rename_i e
    split at ht
    · cases ht
    · rename_i hz
      cases ht
      exact ⟨hz, by omega, by rw [e]; exact h1⟩
  · exact h j t ht
theorem Clean.same {D D' : Dsk} (h : Clean D) (h1 : D'.dur = D.dur) (h2 : D'.n = D.n) : Clean D' := fun k s hk => by rw [h1] at hk; rw [h2]; exact h k s hk
theorem Clean.storeAll : ∀ (l : List (Int × Sec)) {D : Dsk}, Clean D → (∀ x ∈ l, 0 ≤ x.1 ∧ x.1 < D.n) → Clean (D.storeAll l)
  | [], _, h, _ => h
  | x :: r, D, h, hl => Clean.storeAll r (D := D.store x.1 x.2) (h.store x.2 (hl x (List.mem_cons_self ..)).1 (hl x (List.mem_cons_self ..)).2) (fun y hy => hl y (List.mem_cons_of_mem _ hy))
theorem Clean.restartTo {D : Dsk} (h : Clean D) (hl : ∀ x ∈ D.pend, 0 ≤ x.1 ∧ x.1 < D.n) (cs : List UInt8) : ∀ k, Clean (D.restartTo cs k)
  | 0 => h
  | k + 1 => by
    unfold Dsk.restartTo
    split
    · rename_i x hx
      obtain ⟨k1, k2, k3, k4, k5, k6⟩ := restartTo_keeps D cs k
      have := hl x (List.mem_of_getElem? hx)
      exact (h.restartTo hl cs k).store _ this.1 (by rw [k2]; exact this.2)
    · exact h.restartTo hl cs k
theorem Clean.act {D : Dsk} (h : Clean D) (hD : Dok D) (o : OpS) (cs : List UInt8) : Clean (D.act o cs) := by
  unfold Dsk.act
  split
  · unfold Dsk.wr
    split
    · exact h
    split
    · exact h
    split
    · exact h.same rfl rfl
    · exact h.same rfl rfl
  split
  · unfold Dsk.fl
    split
    · exact h
    split
    · exact h.same rfl rfl
    · obtain ⟨k1, k2, k3, k4, k5, k6⟩ := storeAll_keeps D.pend D.count
      exact (Clean.storeAll D.pend (D := D.count) (h.same rfl rfl) hD.sec).same rfl rfl
  split
  · exact h.same rfl rfl
  split
  · unfold Dsk.re
    split
    · exact h
    · exact (h.restartTo hD.sec cs D.pend.length).same rfl rfl
  split
  · exact h.same rfl rfl
  split
  · unfold Dsk.da
    split
    · exact h
    split
    · exact h
    · rename_i hh _
      have hh' : D.has o.sec = true := by simpa using hh
      unfold Dsk.has at hh'
      have := of_decide_eq_true hh'
      exact (h.store _ this.1 this.2).same rfl rfl
  · exact h
theorem Clean.acts : ∀ (os : List OpX) {D : Dsk} (k : Nat), Clean D → Dok D → D.pend.length ≤ k → k + os.length ≤ 49999 → (∀ x ∈ os, x.1.at' ≤ 9223372036854775807) → Clean (D.acts os)
  | [], _, _, h, _, _, _, _ => h
  | x :: r, D, k, h, hD, hl, hk, ha => by
    simp only [List.length_cons] at hk
    obtain ⟨h1, h2, h3⟩ := act_ok D x.1 x.2.2 hD (by omega) (ha x (List.mem_cons_self ..))
    exact Clean.acts r (D := D.act x.1 x.2.2) (k + 1) (h.act hD x.1 x.2.2) h1 (by omega) (by omega) (fun y hy => ha y (List.mem_cons_of_mem _ hy))

theorem lim_iff {D D' : Dsk} (hD : Dok D) (hD' : Dok D') : D.lim = D'.lim ↔ D.limited = D'.limited ∧ (D.limited = true → D.limit = D'.limit) := by
  unfold Dsk.lim
  have h1 := hD.lim
  have h2 := hD'.lim
  cases e1 : D.limited <;> cases e2 : D'.limited <;> simp [e1, e2] at h1 h2 ⊢ <;> omega
theorem dur_iff {D D' : Dsk} (h : Clean D) (h' : Clean D') (hn : D.n = D'.n) : D.dur = D'.dur ↔ ∀ k : Nat, (k : Int) < D.n → D.at k = D'.at k := by
  constructor
  · intro e k _
    unfold Dsk.at
    rw [e]
  · intro hall
    funext k
    by_cases hk : 0 ≤ k ∧ k < D.n
    · obtain ⟨j, rfl⟩ : ∃ j : Nat, k = j := ⟨k.toNat, by omega⟩
      have := hall j hk.2
      unfold Dsk.at at this
      cases e1 : D.dur j with
      | none =>
        cases e2 : D'.dur j with
        | none => rfl
        | some t => rw [e1, e2] at this; exact absurd this.symm (h' _ _ e2).1
      | some s =>
        cases e2 : D'.dur j with
        | none => rw [e1, e2] at this; exact absurd this (h _ _ e1).1
        | some t => rw [e1, e2] at this; exact congrArg some this
    · cases e1 : D.dur k with
      | some s => have := (h _ _ e1).2; omega
      | none =>
        cases e2 : D'.dur k with
        | some s => have := (h' _ _ e2).2; omega
        | none => rfl
theorem eq_same {D D' : Dsk} (hD : Dok D) (hD' : Dok D') (h : Clean D) (h' : Clean D') : EqD D D' ↔ SameR D D' := by
  unfold EqD SameR
  constructor
  · rintro ⟨a, b, c, d, e, f⟩
    exact ⟨c, d, (lim_iff hD hD').2 ⟨a, b⟩, (dur_iff h h' c).1 e, f⟩
  · rintro ⟨c, d, l, e, f⟩
    obtain ⟨a, b⟩ := (lim_iff hD hD').1 l
    exact ⟨a, b, c, d, (dur_iff h h' c).2 e, f⟩

theorem Equal_all (w : World) (p m : Nat) (pv : Value) (D : Dsk) (p' m' : Nat) (pv' : Value) (D' : Dsk) (h : DiskAt w p m pv D) (h' : DiskAt w p' m' pv' D') (hl : D.pend.length ≤ 100000) :
    Calls Try.prog 31 #[.pointer (some ⟨p, 0, none⟩), .pointer (some ⟨p', 0, none⟩)] w fun e w' => BoolIs w w' e (EqD D D') := by
  obtain ⟨a, cap, rfl, -, -, -⟩ := Own.shape (show Own w 82 257 wcells pv D.pend from h.hv)
  obtain ⟨a', cap', rfl, -, -, -⟩ := Own.shape (show Own w 82 257 wcells pv' D'.pend from h'.hv)
  have nd : ∀ b : Bool, b = true ∨ b = false := fun b => by cases b <;> simp
  rcases nd D.limited with e1 | e1 <;> rcases nd D'.limited with e2 | e2
  · by_cases e3 : D.limit = D'.limit
    · by_cases e4 : D.n = D'.n
      · by_cases e5 : D.down = D'.down
        · exact Equal_true_x w p m a cap D p' m' a' cap' D' h h' hl e1 e2 e3 e4 e5
        · exact Equal_true_d w p m a cap D p' m' a' cap' D' h h' hl e1 e2 e3 e4 e5
      · exact Equal_true_n w p m a cap D p' m' a' cap' D' h h' hl e1 e2 e3 e4
    · exact Equal_limit w p m a cap D p' m' a' cap' D' h h' hl e1 e2 e3
  · exact Equal_lim_true w p m a cap D p' m' a' cap' D' h h' hl e1 e2
  · exact Equal_lim_false w p m a cap D p' m' a' cap' D' h h' hl e1 e2
  · by_cases e4 : D.n = D'.n
    · by_cases e5 : D.down = D'.down
      · exact Equal_false_x w p m a cap D p' m' a' cap' D' h h' hl e1 e2 e4 e5
      · exact Equal_false_d w p m a cap D p' m' a' cap' D' h h' hl e1 e2 e4 e5
    · exact Equal_false_n w p m a cap D p' m' a' cap' D' h h' hl e1 e2 e4

theorem Same_all (w : World) (dv wv : Value) (D : Dsk) (dv' wv' : Value) (D' : Dsk) (hD : Dok D) (hD' : Dok D') (h : RefAt w dv wv D) (h' : RefAt w dv' wv' D') :
    Calls Try.prog 32 #[.agg (refL dv wv D).toArray, .agg (refL dv' wv' D').toArray] w fun e w' => BoolIs w w' e (SameR D D') := by
  have no : (D.n ≠ D'.n ∨ D.pend.length ≠ D'.pend.length ∨ D.down ≠ D'.down ∨ D.lim ≠ D'.lim) → Calls Try.prog 32 #[.agg (refL dv wv D).toArray, .agg (refL dv' wv' D').toArray] w fun e w' => BoolIs w w' e (SameR D D') := fun hne => by
    refine (Same_no w dv wv D dv' wv' D' hD hD' h h' hne).mono ?_
    rintro e w' ⟨he, hF⟩
    refine ⟨false, he, ⟨fun h => (by cases h), fun hs => ?_⟩, hF⟩
    obtain ⟨s1, s2, s3, s4, s5⟩ := hs
    rcases hne with q | q | q | q
    · exact absurd s1 q
    · exact absurd (by rw [s5]) q
    · exact absurd s2 q
    · exact absurd s3 q
  by_cases q1 : D.n = D'.n
  · by_cases q2 : D.pend.length = D'.pend.length
    · by_cases q3 : D.down = D'.down
      · by_cases q4 : D.lim = D'.lim
        · exact Same_c w dv wv D dv' wv' D' hD hD' h h' q1 q2 q3 q4
        · exact no (.inr (.inr (.inr q4)))
      · exact no (.inr (.inr (.inl q3)))
    · exact no (.inr (.inl q2))
  · exact no (.inl q1)

set_option maxRecDepth 100000 in
theorem Equal_nil (w : World) (p : Nat) : Calls Try.prog 31 #[.pointer (some ⟨p, 0, none⟩), .pointer none] w fun e w' => e = .returned (.bool false) ∧ w = w' := by
  go_enter Try.func31, Try.ntmps31
  go_wp2
  go_ret
  exact ⟨rfl, rfl⟩
set_option maxRecDepth 100000 in
theorem Equal_nilnil (w : World) : Calls Try.prog 31 #[.pointer none, .pointer none] w fun e w' => e = .returned (.bool true) ∧ w = w' := by
  go_enter Try.func31, Try.ntmps31
  go_wp2
  go_ret
  exact ⟨rfl, rfl⟩
end Go.Proofs.Yticgkbpmaakkiaa
