import Derived.Test.YticgkbpmaakkiaaDkF
namespace Go.Proofs.Yticgkbpmaakkiaa
open Go.RowKit

/-! ### the device under a limit -/
structure Lim (n k : Nat) (D : Dsk) : Prop where
  n3 : D.n = 3
  len : D.pend.length ≤ k
  up : k ≤ n → D.down = false ∧ D.limited = true ∧ D.limit = ((n - k : Nat) : Int) ∧ D.ops = (k : Int)
  dn : n < k → D.down = true ∧ D.ops = (n : Int)

theorem Step.of_drew {w w' : World} {p m : Nat} {pv : Value} {D' : Dsk} (h : Step w w' p m pv D') (n : Nat) : Step w (w'.drewN n) p m pv D' := by
  obtain ⟨pv', h1, h2, h3⟩ := h
  exact ⟨pv', h1.drewN n, h2.drewN n, h3⟩

theorem Lim.count {n k : Nat} {D : Dsk} (h : Lim n k D) (hk : k < n) (hn : n < 256) (pend : List (Int × Sec)) (dur : Int → Option Sec) (hp : pend.length ≤ k + 1) :
    Lim n (k + 1) { D.count with pend := pend, dur := dur } := by
  obtain ⟨h1, h2, h3, h4⟩ := h.up (by omega)
  refine ⟨h.n3, hp, fun h5 => ⟨h1, h2, ?_, ?_⟩, fun h5 => by omega⟩
  · show wrap64 (D.limit - 1) = _
    rw [h3]
    have : (((n - k : Nat) : Int) - 1) = ((n - (k + 1) : Nat) : Int) := by omega
    rw [this]; unfold wrap64; omega
  · show wrap64 (D.ops + 1) = _
    rw [h4]; unfold wrap64; omega

theorem Lim.spent {n k : Nat} {D : Dsk} (h : Lim n k D) (hk : k ≤ n) : D.spent = decide (k = n) := by
  obtain ⟨h1, h2, h3, h4⟩ := h.up hk
  unfold Dsk.spent
  rw [h2, h3, Bool.true_and]
  by_cases e : k = n
  · rw [decide_eq_true e]; exact decide_eq_true (by omega)
  · rw [decide_eq_false e]; exact decide_eq_false (by omega)

theorem Lim.crash {n k : Nat} {D : Dsk} (h : Lim n k D) (hk : n ≤ k) : Lim n (k + 1) { D with down := true } := by
  refine ⟨h.n3, Nat.le_succ_of_le h.len, fun h5 => by omega, fun _ => ⟨rfl, ?_⟩⟩
  rcases Nat.lt_or_ge n k with h6 | h6
  · exact (h.dn h6).2
  · have e : k = n := by omega
    subst e
    exact (h.up (Nat.le_refl _)).2.2.2

theorem Flush_lim (w : World) (p m : Nat) (pv : Value) (D : Dsk) (n k : Nat) (r : Int) (hr : (if k < n then 0 else 28) = r) (hn : n < 256) (hk : k ≤ 40) (h : DiskAt w p m pv D) (hL : Lim n k D) :
    Calls Try.prog 19 #[.pointer (some ⟨p, 0, none⟩)] w fun e w' => ∃ D', e = .returned (.int .i64 r) ∧ Step w w' p m pv D' ∧ Lim n (k + 1) D' ∧ (n ≤ k → D'.pend.length = D.pend.length) := by
  subst hr
  have hlen := hL.len
  rcases Nat.lt_trichotomy k n with hc | hc | hc
  · rw [if_pos hc]
    have hs := hL.spent (by omega)
    rw [decide_eq_false (by omega)] at hs
    obtain ⟨h1, -⟩ := hL.up (by omega)
    refine (Flush_ok w p m pv D h h1 hs (by omega)).mono ?_
    rintro e w' ⟨he, hS⟩
    refine ⟨_, he, hS, ?_, fun h => by omega⟩
    obtain ⟨k1, k2, k3, k4, k5, k6⟩ := storeAll_keeps D.pend D.count
    have := hL.count hc hn [] (D.count.storeAll D.pend).dur (Nat.zero_le _)
    exact ⟨k2.trans this.n3, this.len, fun h5 => ⟨k6.trans (this.up h5).1, k4.trans (this.up h5).2.1, k5.trans (this.up h5).2.2.1, k3.trans (this.up h5).2.2.2⟩, fun h5 => ⟨k6.trans (this.dn h5).1, k3.trans (this.dn h5).2⟩⟩
  · subst hc
    rw [if_neg (by omega)]
    have hs := hL.spent (Nat.le_refl _)
    rw [decide_eq_true rfl] at hs
    obtain ⟨h1, -⟩ := hL.up (Nat.le_refl _)
    refine (Flush_spent w p m pv D h h1 hs).mono ?_
    rintro e w' ⟨he, hD, hF⟩
    exact ⟨_, he, Step.of_p hD hF, hL.crash (Nat.le_refl _), fun _ => rfl⟩
  · rw [if_neg (by omega)]
    obtain ⟨h1, h2⟩ := hL.dn hc
    refine (Flush_down w p m pv D h h1).mono ?_
    rintro e w' ⟨he, rfl⟩
    refine ⟨D, he, Step.refl h (Fr.refl _ _), ⟨hL.n3, by omega, fun _ => by omega, fun _ => ⟨h1, h2⟩⟩, fun _ => rfl⟩

theorem Write_lim (w : World) (p m : Nat) (pv : Value) (D : Dsk) (n k : Nat) (r : Int) (hr : (if k < n then 0 else 28) = r) (hn : n < 256) (hk : k ≤ 40) (j : Int) (g cap : Nat) (s : Sec) (h : DiskAt w p m pv D) (hL : Lim n k D) (hj : 0 ≤ j ∧ j < 3)
    (hb : BytesAt w (.slice (some ⟨g, 0, none⟩) 256 cap) s.1) (hsp : g ≠ p ∧ pv.ownBlock ≠ some g) :
    Calls Try.prog 20 #[.pointer (some ⟨p, 0, none⟩), .int .i64 j, .slice (some ⟨g, 0, none⟩) 256 cap] w fun e w' => ∃ D', e = .returned (.int .i64 r) ∧ Step w w' p m pv D' ∧ Lim n (k + 1) D' ∧ (n ≤ k → D'.pend.length = D.pend.length) := by
  subst hr
  have hlen := hL.len
  have hh : D.has j = true := by unfold Dsk.has; rw [hL.n3]; exact decide_eq_true hj
  rcases Nat.lt_trichotomy k n with hc | hc | hc
  · rw [if_pos hc]
    have hs := hL.spent (by omega)
    rw [decide_eq_false (by omega)] at hs
    obtain ⟨h1, -⟩ := hL.up (by omega)
    refine (Write_ok w p m pv D j _ s h h1 hh hs (by omega) hb (fun b e => by cases e; exact hsp)).mono ?_
    rintro e w' ⟨he, hS⟩
    exact ⟨_, he, hS, hL.count hc hn (D.pend ++ [(j, s)]) D.dur (by simp; omega), fun h => by omega⟩
  · subst hc
    rw [if_neg (by omega)]
    have hs := hL.spent (Nat.le_refl _)
    rw [decide_eq_true rfl] at hs
    obtain ⟨h1, -⟩ := hL.up (Nat.le_refl _)
    refine (Write_spent w p m pv D j _ _ h h1 hh hs).mono ?_
    rintro e w' ⟨he, hD, hF⟩
    exact ⟨_, he, Step.of_p hD hF, hL.crash (Nat.le_refl _), fun _ => rfl⟩
  · rw [if_neg (by omega)]
    obtain ⟨h1, h2⟩ := hL.dn hc
    refine (Write_down w p m pv D j _ h h1).mono ?_
    rintro e w' ⟨he, rfl⟩
    refine ⟨D, he, Step.refl h (Fr.refl _ _), ⟨hL.n3, by omega, fun _ => by omega, fun _ => ⟨h1, h2⟩⟩, fun _ => rfl⟩
end Go.Proofs.Yticgkbpmaakkiaa
