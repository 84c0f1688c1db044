/-
  Equal and Same at any two devices; when they say the same.
  DiskClone: the walk.
-/
import Derived.Test.YticgkbpmaakkiaaDm3q

namespace Go.Proofs.Yticgkbpmaakkiaa
open Go.RowKit

/-- No zero sector is stored, and none outside the device. -/
def Clean (D : Dsk) : Prop := ∀ k s, D.dur k = some s → s ≠ zeroSec ∧ 0 ≤ k ∧ k < D.n
theorem clean_fresh (n : Int) : Clean (Dsk.fresh n) := fun k s h => by cases h
theorem Clean.store {D : Dsk} (h : Clean D) {k : Int} (s : Sec) (h0 : 0 ≤ k) (h1 : k < D.n) : Clean (D.store k s) := by
  intro j t ht
  have ht : (if j = k then (if s = zeroSec then none else some s) else D.dur j) = some t := ht
  split at ht
  · rename_i e
    split at ht
    · cases ht
    · rename_i hz
      cases ht
      exact ⟨hz, by omega, by rw [e]; exact h1⟩
  · exact h j t ht
theorem Clean.same {D D' : Dsk} (h : Clean D) (h1 : D'.dur = D.dur) (h2 : D'.n = D.n) : Clean D' := fun k s hk => by rw [h1] at hk; rw [h2]; exact h k s hk
theorem Clean.storeAll : ∀ (l : List (Int × Sec)) {D : Dsk}, Clean D → (∀ x ∈ l, 0 ≤ x.1 ∧ x.1 < D.n) → Clean (D.storeAll l)
  | [], _, h, _ => h
  | x :: r, D, h, hl => Clean.storeAll r (D := D.store x.1 x.2) (h.store x.2 (hl x (List.mem_cons_self ..)).1 (hl x (List.mem_cons_self ..)).2) (fun y hy => hl y (List.mem_cons_of_mem _ hy))
theorem Clean.restartTo {D : Dsk} (h : Clean D) (hl : ∀ x ∈ D.pend, 0 ≤ x.1 ∧ x.1 < D.n) (cs : List UInt8) : ∀ k, Clean (D.restartTo cs k)
  | 0 => h
  | k + 1 => by
    unfold Dsk.restartTo
    split
    · rename_i x hx
      obtain ⟨k1, k2, k3, k4, k5, k6⟩ := restartTo_keeps D cs k
      have := hl x (List.mem_of_getElem? hx)
      exact (h.restartTo hl cs k).store _ this.1 (by rw [k2]; exact this.2)
    · exact h.restartTo hl cs k
theorem Clean.act {D : Dsk} (h : Clean D) (hD : Dok D) (o : OpS) (cs : List UInt8) : Clean (D.act o cs) := by
  unfold Dsk.act
  split
  · unfold Dsk.wr
    split
    · exact h
    split
    · exact h
    split
    · exact h.same rfl rfl
    · exact h.same rfl rfl
  split
  · unfold Dsk.fl
    split
    · exact h
    split
    · exact h.same rfl rfl
    · obtain ⟨k1, k2, k3, k4, k5, k6⟩ := storeAll_keeps D.pend D.count
      exact (Clean.storeAll D.pend (D := D.count) (h.same rfl rfl) hD.sec).same rfl rfl
  split
  · exact h.same rfl rfl
  split
  · unfold Dsk.re
    split
    · exact h
    · exact (h.restartTo hD.sec cs D.pend.length).same rfl rfl
  split
  · exact h.same rfl rfl
  split
  · unfold Dsk.da
    split
    · exact h
    split
    · exact h
    · rename_i hh _
      have hh' : D.has o.sec = true := by simpa using hh
      unfold Dsk.has at hh'
      have := of_decide_eq_true hh'
      exact (h.store _ this.1 this.2).same rfl rfl
  · exact h
theorem Clean.acts : ∀ (os : List OpX) {D : Dsk} (k : Nat), Clean D → Dok D → D.pend.length ≤ k → k + os.length ≤ 49999 → (∀ x ∈ os, x.1.at' ≤ 9223372036854775807) → Clean (D.acts os)
  | [], _, _, h, _, _, _, _ => h
  | x :: r, D, k, h, hD, hl, hk, ha => by
    simp only [List.length_cons] at hk
    obtain ⟨h1, h2, h3⟩ := act_ok D x.1 x.2.2 hD (by omega) (ha x (List.mem_cons_self ..))
    exact Clean.acts r (D := D.act x.1 x.2.2) (k + 1) (h.act hD x.1 x.2.2) h1 (by omega) (by omega) (fun y hy => ha y (List.mem_cons_of_mem _ hy))

theorem lim_iff {D D' : Dsk} (hD : Dok D) (hD' : Dok D') : D.lim = D'.lim ↔ D.limited = D'.limited ∧ (D.limited = true → D.limit = D'.limit) := by
  unfold Dsk.lim
  have h1 := hD.lim
  have h2 := hD'.lim
  cases e1 : D.limited <;> cases e2 : D'.limited <;> simp [e1, e2] at h1 h2 ⊢ <;> omega
theorem dur_iff {D D' : Dsk} (h : Clean D) (h' : Clean D') (hn : D.n = D'.n) : D.dur = D'.dur ↔ ∀ k : Nat, (k : Int) < D.n → D.at k = D'.at k := by
  constructor
  · intro e k _
    unfold Dsk.at
    rw [e]
  · intro hall
    funext k
    by_cases hk : 0 ≤ k ∧ k < D.n
    · obtain ⟨j, rfl⟩ : ∃ j : Nat, k = j := ⟨k.toNat, by omega⟩
      have := hall j hk.2
      unfold Dsk.at at this
      cases e1 : D.dur j with
      | none =>
        cases e2 : D'.dur j with
        | none => rfl
        | some t => rw [e1, e2] at this; exact absurd this.symm (h' _ _ e2).1
      | some s =>
        cases e2 : D'.dur j with
        | none => rw [e1, e2] at this; exact absurd this (h _ _ e1).1
        | some t => rw [e1, e2] at this; exact congrArg some this
    · cases e1 : D.dur k with
      | some s => have := (h _ _ e1).2; omega
      | none =>
        cases e2 : D'.dur k with
        | some s => have := (h' _ _ e2).2; omega
        | none => rfl
theorem eq_same {D D' : Dsk} (hD : Dok D) (hD' : Dok D') (h : Clean D) (h' : Clean D') : EqD D D' ↔ SameR D D' := by
  unfold EqD SameR
  constructor
  · rintro ⟨a, b, c, d, e, f⟩
    exact ⟨c, d, (lim_iff hD hD').2 ⟨a, b⟩, (dur_iff h h' c).1 e, f⟩
  · rintro ⟨c, d, l, e, f⟩
    obtain ⟨a, b⟩ := (lim_iff hD hD').1 l
    exact ⟨a, b, c, d, (dur_iff h h' c).2 e, f⟩

theorem Equal_all (w : World) (p m : Nat) (pv : Value) (D : Dsk) (p' m' : Nat) (pv' : Value) (D' : Dsk) (h : DiskAt w p m pv D) (h' : DiskAt w p' m' pv' D') (hl : D.pend.length ≤ 100000) :
    Calls Try.prog 31 #[.pointer (some ⟨p, 0, none⟩), .pointer (some ⟨p', 0, none⟩)] w fun e w' => BoolIs w w' e (EqD D D') := by
  obtain ⟨a, cap, rfl, -, -, -⟩ := Own.shape (show Own w 82 257 wcells pv D.pend from h.hv)
  obtain ⟨a', cap', rfl, -, -, -⟩ := Own.shape (show Own w 82 257 wcells pv' D'.pend from h'.hv)
  have nd : ∀ b : Bool, b = true ∨ b = false := fun b => by cases b <;> simp
  rcases nd D.limited with e1 | e1 <;> rcases nd D'.limited with e2 | e2
  · by_cases e3 : D.limit = D'.limit
    · by_cases e4 : D.n = D'.n
      · by_cases e5 : D.down = D'.down
        · exact Equal_true_x w p m a cap D p' m' a' cap' D' h h' hl e1 e2 e3 e4 e5
        · exact Equal_true_d w p m a cap D p' m' a' cap' D' h h' hl e1 e2 e3 e4 e5
      · exact Equal_true_n w p m a cap D p' m' a' cap' D' h h' hl e1 e2 e3 e4
    · exact Equal_limit w p m a cap D p' m' a' cap' D' h h' hl e1 e2 e3
  · exact Equal_lim_true w p m a cap D p' m' a' cap' D' h h' hl e1 e2
  · exact Equal_lim_false w p m a cap D p' m' a' cap' D' h h' hl e1 e2
  · by_cases e4 : D.n = D'.n
    · by_cases e5 : D.down = D'.down
      · exact Equal_false_x w p m a cap D p' m' a' cap' D' h h' hl e1 e2 e4 e5
      · exact Equal_false_d w p m a cap D p' m' a' cap' D' h h' hl e1 e2 e4 e5
    · exact Equal_false_n w p m a cap D p' m' a' cap' D' h h' hl e1 e2 e4

theorem Same_all (w : World) (dv wv : Value) (D : Dsk) (dv' wv' : Value) (D' : Dsk) (hD : Dok D) (hD' : Dok D') (h : RefAt w dv wv D) (h' : RefAt w dv' wv' D') :
    Calls Try.prog 32 #[.agg (refL dv wv D).toArray, .agg (refL dv' wv' D').toArray] w fun e w' => BoolIs w w' e (SameR D D') := by
  have no : (D.n ≠ D'.n ∨ D.pend.length ≠ D'.pend.length ∨ D.down ≠ D'.down ∨ D.lim ≠ D'.lim) → Calls Try.prog 32 #[.agg (refL dv wv D).toArray, .agg (refL dv' wv' D').toArray] w fun e w' => BoolIs w w' e (SameR D D') := fun hne => by
    refine (Same_no w dv wv D dv' wv' D' hD hD' h h' hne).mono ?_
    rintro e w' ⟨he, hF⟩
    refine ⟨false, he, ⟨fun h => (by cases h), fun hs => ?_⟩, hF⟩
    obtain ⟨s1, s2, s3, s4, s5⟩ := hs
    rcases hne with q | q | q | q
    · exact absurd s1 q
    · exact absurd (by rw [s5]) q
    · exact absurd s2 q
    · exact absurd s3 q
  by_cases q1 : D.n = D'.n
  · by_cases q2 : D.pend.length = D'.pend.length
    · by_cases q3 : D.down = D'.down
      · by_cases q4 : D.lim = D'.lim
        · exact Same_c w dv wv D dv' wv' D' hD hD' h h' q1 q2 q3 q4
        · exact no (.inr (.inr (.inr q4)))
      · exact no (.inr (.inr (.inl q3)))
    · exact no (.inr (.inl q2))
  · exact no (.inl q1)

set_option maxRecDepth 100000 in
theorem Equal_nil (w : World) (p : Nat) : Calls Try.prog 31 #[.pointer (some ⟨p, 0, none⟩), .pointer none] w fun e w' => e = .returned (.bool false) ∧ w = w' := by
  go_enter Try.func31, Try.ntmps31
  go_wp2
  go_ret
  exact ⟨rfl, rfl⟩
set_option maxRecDepth 100000 in
theorem Equal_nilnil (w : World) : Calls Try.prog 31 #[.pointer none, .pointer none] w fun e w' => e = .returned (.bool true) ∧ w = w' := by
  go_enter Try.func31, Try.ntmps31
  go_wp2
  go_ret
  exact ⟨rfl, rfl⟩
end Go.Proofs.Yticgkbpmaakkiaa

namespace Go.Proofs.Yticgkbpmaakkiaa
open Go.RowKit

theorem bool_eq {a b : Bool} (h : a = true ↔ b = true) : a = b := by cases a <;> cases b <;> simp_all

set_option maxRecDepth 100000 in
theorem Clone_big (w : World) (s : Nat) (a : Option Addr) (n1 cap : Nat) (a2 : Option Addr) (n2 cap2 : Nat) (h : 40 < n1 ∨ 40 < n2) :
    Calls Try.prog 8 #[.int .u8 s, .slice a n1 cap, .slice a2 n2 cap2] w fun e w' => e = .returned (.bool true) ∧ Fr Non w w' := by
  by_cases h1 : n1 ≤ 40
  · have e1 : decide (n1 ≤ 40) = true := decide_eq_true h1
    have e2 : decide (n2 ≤ 40) = false := decide_eq_false (by omega)
    clear h h1
    go_enter Try.func8, Try.ntmps8
    go_wp2_with (first
      | (go_at_call 11; refine (known_c w).mono ?_; rintro e w2 ⟨rfl, hF2⟩; have HF2 := Lib.hid hF2; clear hF2)
      | (go_at_call 11; refine (known_c w2).mono ?_; rintro e w9 ⟨rfl, hF9⟩; have HF9 := Lib.hid hF9; clear hF9)
      | (go_at_call 22; refine (small_c _ _ _ _).mono ?_; rintro e wx ⟨rfl, rfl⟩)
      | fail)
    go_ret
    exact ⟨rfl, HF2.out.trans HF9.out (fun _ _ h => h)⟩
  · have e1 : decide (n1 ≤ 40) = false := decide_eq_false h1
    clear h h1
    go_enter Try.func8, Try.ntmps8
    go_wp2_with (first
      | (go_at_call 11; refine (known_c w).mono ?_; rintro e w2 ⟨rfl, hF2⟩; have HF2 := Lib.hid hF2; clear hF2)
      | (go_at_call 11; refine (known_c w2).mono ?_; rintro e w9 ⟨rfl, hF9⟩; have HF9 := Lib.hid hF9; clear hF9)
      | (go_at_call 22; refine (small_c _ _ _ _).mono ?_; rintro e wx ⟨rfl, rfl⟩)
      | fail)
    go_ret
    exact ⟨rfl, HF2.out.trans HF9.out (fun _ _ h => h)⟩

/-- The run's result, that it is clean among it. -/
theorem run_clean (w : World) (n : Int) (h0 : 1 ≤ n) (h1 : n ≤ 4096) (a : Option Addr) (cap : Nat) (os : List OpX) (hl : os.length ≤ 40) (ho : OpsAt w a os) :
    Calls Try.prog 23 #[.int .i64 n, .slice a os.length cap] w fun e w' => ∃ D p m pv dv wv, e = .returned (.tuple #[.pointer (some ⟨p, 0, none⟩), .agg (refL dv wv D).toArray, .bool true]) ∧ Both w.heap.size w' p m pv dv wv D ∧ Fr Non w w' ∧ D.pend.length ≤ 40 ∧ Clean D := by
  refine (run_c w n h0 h1 a cap os hl ho).mono ?_
  rintro e w' ⟨p, m, pv, dv, wv, he, hb, hF⟩
  obtain ⟨-, q, r⟩ := acts_ok os (Dsk.fresh n) 0 (fresh_ok n h0 h1) (Nat.zero_le _) (by omega) (fun y hy => (ho.2 y hy).2.2.2.2)
  exact ⟨_, p, m, pv, dv, wv, he, hb, hF, by omega, Clean.acts os 0 (clean_fresh n) (fresh_ok n h0 h1) (Nat.zero_le _) (by omega) (fun y hy => (ho.2 y hy).2.2.2.2)⟩

set_option maxRecDepth 100000 in
set_option maxHeartbeats 4000000 in
theorem Clone_small (w : World) (s : Nat) (hs : s < 256) (a : Option Addr) (cap : Nat) (os : List OpX) (a2 : Option Addr) (cap2 : Nat) (os2 : List OpX) (h1 : os.length ≤ 40) (h2 : os2.length ≤ 40) (ho : OpsAt w a os) (ho2 : OpsAt w a2 os2) :
    Calls Try.prog 8 #[.int .u8 s, .slice a os.length cap, .slice a2 os2.length cap2] w fun e w' => e = .returned (.bool true) ∧ Fr Non w w' := by
  have e1 : decide (os.length ≤ 40) = true := decide_eq_true h1
  have e2 : decide (os2.length ≤ 40) = true := decide_eq_true h2
  have hl2 : (os2.length : Int) ≤ 40 := by omega
  have HO := Lib.hid ho
  have HO2 := Lib.hid ho2
  have HL := Lib.hid h1
  have HL2 := Lib.hid h2
  clear ho ho2 h1 h2
  go_enter Try.func8, Try.ntmps8
  go_wp2_with (first
    | (go_at_call 11; refine (known_c w).mono ?_; rintro e w2 ⟨rfl, hF2⟩; have HF2 := Lib.hid hF2; clear hF2)
    | (go_at_call 22; refine (small_c _ _ _ _).mono ?_; rintro e wx ⟨rfl, rfl⟩)
    | fail)
  obtain ⟨n, hn⟩ : ∃ n : Nat, (1 + (s : Int) % 12) = (n : Int) := ⟨1 + s % 12, by omega⟩
  have hn1 : 1 ≤ (n : Int) := by omega
  have hn2 : (n : Int) ≤ 12 := by omega
  rw [hn]
  clear hn
  refine (run_clean w2 n hn1 (by omega) a cap os HL.out (HO.out.non HF2.out)).mono ?_
  rintro e w3 ⟨D, p, m, pv, dv, wv, rfl, hB3, hF3, hpl, hcl⟩
  have HB3 := Lib.hid hB3
  have HF3 := Lib.hid hF3
  have HPL := Lib.hid hpl
  have HCLN := Lib.hid hcl
  have HB8 : Hid (w2.heap.size ≤ w3.heap.size) := hF3.size
  clear hB3 hF3 hpl hcl
  go_wp2_with (first
    | (guard_target =~ wpList _ _ _ (⟨_, Op.alloc 45, _, _, _, _⟩ :: _) _ _; refine wl rfl (r_allocA rfl (zero45 _)) ?_; have HN4 := Lib.hid (heap_alloc_new w3 (.cells zref 45)); have HF4 := Lib.hid ((Fr.refl Non w3).alloc (.cells zref 45)); obtain ⟨w4, hw4⟩ : ∃ w4, w3.alloc (.cells zref 45) = w4 := ⟨_, rfl⟩; rw [hw4]; rw [hw4] at HN4 HF4; clear hw4)
    | (guard_target =~ wpList _ _ _ (⟨_, Op.store 45 _ _, _, _, _, _⟩ :: _) _ w4; refine wu rfl (r_store (b := w3.heap.size) (i := 0) (cs := refL dv wv D) rfl rfl rfl (there45 HN4.out rfl) (by rw [sz45]; rfl) (refL_one HB3.out.r _)) ?_; have HN5 := Lib.hid (put45 HN4.out rfl (l := refL dv wv D) rfl); have HB5 := Lib.hid ((HB3.out.non HF4.out).put HN4.out (refL dv wv D)); have HF25 : Hid (Fr Non w2 (w4.setCells w3.heap.size 0 (refL dv wv D))) := Fr.setCells _ (fun h => by have := HF3.out.size; omega) _ _ _ (HF3.out.trans HF4.out (fun _ _ h => h)); generalize w4.setCells w3.heap.size 0 (refL dv wv D) = w5 at *)
    | fail)
  have HB85 : Hid (w3.heap.size < w5.heap.size) := heap_lt HN5.out
  generalize w3.heap.size = b8 at *
  refine (Clone_c w5 p m pv D HB5.out.d (by have := HPL.out; omega)).mono ?_
  rintro e w6 ⟨p', m', pv', rfl, hd6, hF6, hn6⟩
  have HT6 : Hid (Two w2.heap.size w6 p m pv dv wv D p' m' pv' D) := ⟨HB5.out.non hF6, hd6, fun k hk => by have := hn6 k hk; have := HF25.out.size; omega, fun k hk hk' => by have := hn6 k hk'; have := foot_lt HB5.out.d hk; omega⟩
  have HN6 := Lib.hid (hF6.keep HN5.out (fun h => h))
  have HN6r := Lib.hid (rangeAt_of (hF6.keep HN5.out (fun h => h)) 0 (refL dv wv D) (by simp))
  have HF26 : Hid (Fr Non w2 w6) := HF25.out.trans hF6 (fun _ _ h => h)
  have HB86 : Hid (b8 < w6.heap.size) := by have h1 := HB85.out; have h2 := hF6.size; exact Nat.lt_of_lt_of_le h1 h2
  clear hd6 hF6 hn6
  go_wp2_with (first
    | (guard_target =~ wpList _ _ _ (⟨_, Op.load 45 _, _, _, _, _⟩ :: _) _ _; refine wl rfl (r_load (b := b8) (i := 0) rfl rfl HN6r.out Try.underlying45 rfl (by rw [sz45]; rfl)) ?_)
    | (guard_target =~ wpList _ _ _ (⟨_, Op.alloc 45, _, _, _, _⟩ :: _) _ _; refine wl rfl (r_allocA rfl (zero45 _)) ?_; have HM7 := Lib.hid (heap_alloc_new w6 (.cells zref 45)); have HF7 := Lib.hid ((Fr.refl Non w6).alloc (.cells zref 45)); obtain ⟨w7, hw7⟩ : ∃ w7, w6.alloc (.cells zref 45) = w7 := ⟨_, rfl⟩; rw [hw7]; rw [hw7] at HM7 HF7; clear hw7)
    | (guard_target =~ wpList _ _ _ (⟨_, Op.store 45 _ _, _, _, _, _⟩ :: _) _ w7; refine wu rfl (r_store (b := w6.heap.size) (i := 0) (cs := refL dv wv D) rfl rfl rfl (there45 HM7.out rfl) (by rw [sz45]; rfl) (refL_one HT6.out.a.r _)) ?_; have HM8 := Lib.hid (put45 HM7.out rfl (l := refL dv wv D) rfl); have HT8 := Lib.hid ((HT6.out.non HF7.out).put HM7.out (refL dv wv D)); have HN8 : Hid ((w7.setCells w6.heap.size 0 (refL dv wv D)).heap[b8]? = some (.cells (refL dv wv D).toArray 45)) := (by have h := HF7.out.keep HN6.out (fun h => h); rw [heap_setCells_other b8 (by have := HB86.out; omega)]; exact h); have HF28 : Hid (Fr Non w2 (w7.setCells w6.heap.size 0 (refL dv wv D))) := Fr.setCells _ (fun h => by have := HF26.out.size; omega) _ _ _ (HF26.out.trans HF7.out (fun _ _ h => h)); generalize w7.setCells w6.heap.size 0 (refL dv wv D) = w8 at *)
    | fail)
  have HB11 : Hid (w2.heap.size ≤ w6.heap.size ∧ b8 ≠ w6.heap.size) := ⟨HF26.out.size, by have := HB86.out; omega⟩
  clear HM7 HF7 HB86 HB85
  generalize w6.heap.size = b11 at *
  have HDOK := Lib.hid HT8.out.a.ok
  have HO8 := Lib.hid HT8.out.a.r
  go_loopw [9, 12] (fun okv i wr => ∃ (k : Nat) (pvk dvk wvk : Value), okv = .bool true ∧ i = .int .i64 k ∧ k ≤ os2.length ∧ wr.heap[b8]? = some (.cells (refL dv wv D).toArray 45) ∧ wr.heap[b11]? = some (.cells (refL dvk wvk (D.acts (os2.take k))).toArray 45) ∧ Two w2.heap.size wr p m pvk dvk wvk (D.acts (os2.take k)) p' m' pv' D ∧ RefAt wr dv wv D ∧ Fr Non w2 wr ∧ (D.acts (os2.take k)).pend.length ≤ 80) (fun _ i _ => os2.length - (intOf i).toNat)
  case atStart => exact ⟨0, pv, dv, wv, rfl, rfl, Nat.zero_le _, HN8.out, HM8.out, HT8.out, HO8.out, HF28.out, by show D.pend.length ≤ 80; have := HPL.out; omega⟩
  case round =>
    obtain ⟨k, pvk, dvk, wvk, rfl, rfl, hk, hM, hN, hT, hO, hF, hpl⟩ := hrel
    have HN12 := Lib.hid hN
    have HM12 := Lib.hid hM
    have HT12 := Lib.hid hT
    have HO12 := Lib.hid hO
    have HF12 := Lib.hid hF
    have HPLk := Lib.hid hpl
    clear hN hM hT hO hF hpl
    by_cases hlt : k < os2.length
    · obtain ⟨x, hx⟩ : ∃ x, os2[k]? = some x := ⟨_, List.getElem?_eq_getElem hlt⟩
      have hD' : D.acts (os2.take (k + 1)) = (D.acts (os2.take k)).act x.1 x.2.2 := by rw [List.take_add_one, hx]; exact acts_snoc _ _ _
      have hgood := (HO2.out.non HF2.out).2 x (List.mem_of_getElem? hx)
      have hok := act_ok (D.acts (os2.take k)) x.1 x.2.2 HT12.out.a.ok (by have := HPLk.out; omega) hgood.2.2.2.2
      have hpl' : (D.acts (os2.take (k + 1))).pend.length ≤ 80 := by
        obtain ⟨-, q, -⟩ := acts_ok (os2.take (k + 1)) D 40 HDOK.out HPL.out (by rw [List.length_take]; omega) (fun y hy => (HO2.out.2 y (List.mem_of_mem_take hy)).2.2.2.2)
        rw [List.length_take] at q; omega
      rw [hD'] at hpl'
      have hox : ∃ b o, a2 = some ⟨b, o, none⟩ ∧ w2.rangeAt b (o + k * 6) (opL x.1 x.2.1) := by
        rcases (HO2.out.non HF2.out).1 with h | ⟨b, o, e, q⟩
        · rw [h] at hlt; simp at hlt
        · exact ⟨b, o, e, q k x hx⟩
      obtain ⟨b, o, rfl, hox2⟩ := hox
      have HOX : Hid (wr.drew.rangeAt b (o + k * 6) (opL x.1 x.2.1)) := rangeAt_fr HF12.out.drew hox2 (fun h => h)
      have HGOOD := Lib.hid hgood
      have HOKk := Lib.hid hok
      have HPL' := Lib.hid hpl'
      have HDE := Lib.hid hD'
      have HLT := Lib.hid hlt
      have hlt' : (k : Int) < (os2.length : Int) := by omega
      have hk9 : (k : Int) ≤ 40 := by omega
      clear hok hpl' hox2 hgood hD' hx hlt
      generalize D.acts (os2.take k) = Dk at *
      have HCALL := Lib.hid (do_step (w0 := w2) (w := wr.drew) (HT12.out.a.non ((Fr.refl Non wr).drew)) (by have := HPLk.out; omega) HF12.out.drew x HGOOD.out)
      have HN12r : Hid (wr.drew.rangeAt b11 0 (refL dvk wvk Dk)) := rangeAt_of (w := wr.drew) HN12.out 0 (refL dvk wvk Dk) (by simp)
      have HTd : Hid (Two w2.heap.size wr.drew p m pvk dvk wvk Dk p' m' pv' D) := HT12.out.non ((Fr.refl Non wr).drew)
      have HNd : Hid (wr.drew.heap[b11]? = some (.cells (refL dvk wvk Dk).toArray 45)) := HN12.out
      have HMd : Hid (wr.drew.heap[b8]? = some (.cells (refL dv wv D).toArray 45)) := HM12.out
      have HOd : Hid (RefAt wr.drew dv wv D) := HO12.out.non ((Fr.refl Non wr).drew)
      have HFd : Hid (Fr Non w2 wr.drew) := HF12.out.drew
      clear HT12 HN12 HM12 HO12 HF12
      have HT12 := HTd
      have HN12 := HNd
      have HM12 := HMd
      have HO12 := HOd
      have HF12 := HFd
      clear HTd HNd HMd HOd HFd
      go_wp2_with fail
      refine rc (fun W : World => W.rangeAt b11 0 (refL dvk wvk Dk) ∧ W.rangeAt b (o + k * 6) (opL x.1 x.2.1)) 6 (by kernel_rfl) ?_
      have hS : (fun W : World => W.rangeAt b11 0 (refL dvk wvk Dk) ∧ W.rangeAt b (o + k * 6) (opL x.1 x.2.1)) wr.drew := ⟨HN12r.out, HOX.out⟩
      refine tp (i := 0) (v := .pointer (some ⟨p, 0, none⟩)) rfl (by kernel_rfl) (fun _ _ _ h => h) rfl (fun W0 => r_move rfl rfl) (.inr hS) ?_
      simp only [Act.put, List.setIfInBounds_toArray, List.set_cons_zero, List.set_cons_succ]
      refine tp (i := 2) (v := .slice (some ⟨b, o, none⟩) os2.length cap2) rfl (by kernel_rfl) (fun _ _ _ h => h) rfl (fun W0 => r_move rfl rfl) (.inr hS) ?_
      simp only [Act.put, List.setIfInBounds_toArray, List.set_cons_zero, List.set_cons_succ]
      refine tp (i := 3) (v := .int .i64 (k : Int)) rfl (by kernel_rfl) (fun _ _ _ h => h) rfl (fun W0 => by unfold RunV; go_simp) (.inr hS) ?_
      simp only [Act.put, List.setIfInBounds_toArray, List.set_cons_zero, List.set_cons_succ]
      refine tp (i := 4) (v := .pointer (some ⟨b, o + k * 6, none⟩)) rfl (by kernel_rfl) (fun _ _ _ h => h) rfl (fun W0 => by unfold RunV; go_simp) (.inr hS) ?_
      simp only [Act.put, List.setIfInBounds_toArray, List.set_cons_zero, List.set_cons_succ]
      refine tc (i := 1) (v := .agg (refL dvk wvk Dk).toArray) rfl 8 (by kernel_rfl) (fun _ _ _ h => h) rfl (fun W0 hw => r_load (b := b11) (i := 0) rfl rfl hw.1 Try.underlying45 rfl (by rw [sz45]; rfl)) hS ?_
      simp only [Act.put, List.setIfInBounds_toArray, List.set_cons_zero, List.set_cons_succ]
      refine tc (i := 5) (v := .agg (opL x.1 x.2.1).toArray) rfl 8 (by kernel_rfl) (fun _ _ _ h => h) rfl (fun W0 hw => r_load (b := b) (i := o + k * 6) rfl rfl hw.2 Try.underlying60 rfl (by rw [sz60]; rfl)) hS ?_
      simp only [Act.put, List.setIfInBounds_toArray, List.set_cons_zero, List.set_cons_succ]
      clear hS
      refine oc4 (i := 6) rfl (by kernel_rfl) rfl (by kernel_rfl) ?_
      unfold Oper.wp
      go_simp
      refine HCALL.out.mono ?_
      rintro e w13 ⟨dv13, wv13, rfl, hS13, hR13⟩
      have HS13 := Lib.hid hS13
      have HR13 := Lib.hid hR13
      have HN13 := Lib.hid (hS13.choose_spec.2.1.keep HN12.out (HT12.out.a.d.no45 HN12.out))
      have HM13 := Lib.hid (hS13.choose_spec.2.1.keep HM12.out (HT12.out.a.d.no45 HM12.out))
      have HO13 := Lib.hid (HO12.out.fr hS13.choose_spec.2.1 HT12.out.a.d.apart)
      clear hS13 hR13
      refine tp (i := 7) (v := .tuple #[.agg (refL dv13 wv13 (Dk.act x.1 x.2.2)).toArray, .bool true]) rfl (by kernel_rfl) (fun _ _ _ h => h) rfl (fun W0 => r_move rfl rfl) (.inl (by kernel_rfl)) ?_
      simp only [Act.put, List.setIfInBounds_toArray, List.set_cons_zero, List.set_cons_succ]
      refine tp (i := 8) (v := .agg (refL dv13 wv13 (Dk.act x.1 x.2.2)).toArray) rfl (by kernel_rfl) (fun _ _ _ h => h) rfl (fun W0 => by unfold RunV; go_simp) (.inl (by kernel_rfl)) ?_
      simp only [Act.put, List.setIfInBounds_toArray, List.set_cons_zero, List.set_cons_succ]
      refine tp (i := 9) (v := .bool true) rfl (by kernel_rfl) (fun _ _ _ h => h) rfl (fun W0 => by unfold RunV; go_simp) (.inl (by kernel_rfl)) ?_
      simp only [Act.put, List.setIfInBounds_toArray, List.set_cons_zero, List.set_cons_succ]
      refine oc2u (i := 10) rfl (by kernel_rfl) rfl (by kernel_rfl) (r_store (b := b11) (i := 0) (cs := refL dv13 wv13 (Dk.act x.1 x.2.2)) rfl rfl rfl (there45 HN13.out rfl) (by rw [sz45]; rfl) (refL_one HR13.out _)) ?_
      simp only [Act.put, List.setIfInBounds_toArray, List.set_cons_zero, List.set_cons_succ]
      obtain ⟨w14, hw14⟩ : ∃ w14, w13.setCells b11 0 (refL dv13 wv13 (Dk.act x.1 x.2.2)) = w14 := ⟨_, rfl⟩
      rw [hw14]
      have HW14 := Lib.hid hw14
      clear hw14
      refine tp (i := 11) (v := .bool true) rfl (by kernel_rfl) (fun _ _ _ h => h) rfl (fun W0 => r_assign rfl rfl) (.inl (by kernel_rfl)) ?_
      simp only [Act.put, List.setIfInBounds_toArray, List.set_cons_zero, List.set_cons_succ]
      refine dc (by kernel_rfl) ?_
      obtain ⟨pv13, hT13, hF13⟩ := HT12.out.step HF12.out HS13.out HR13.out HOKk.out.1
      have HT14 := Lib.hid (hT13.put HN13.out (refL dv13 wv13 (Dk.act x.1 x.2.2)))
      have HN14 := Lib.hid (put45 HN13.out rfl (l := refL dv13 wv13 (Dk.act x.1 x.2.2)) rfl)
      have hFs : Fr (· = b11) w13 (w13.setCells b11 0 (refL dv13 wv13 (Dk.act x.1 x.2.2))) := Fr.setCells (S := (· = b11)) _ (fun _ => rfl) _ _ _ (Fr.refl _ _)
      have HM14 := Lib.hid (hFs.keep HM13.out (fun e => HB11.out.2 e))
      have HO14 := Lib.hid (HO13.out.fr hFs (fun k e cs' => by have e' : k = b11 := e; subst e'; rw [HN13.out]; exact ⟨by simp, by simp, by simp⟩))
      have HF14 := Lib.hid (hF13.trans hFs (fun i hi e => by have e' : i = b11 := e; have := HB11.out; omega))
      rw [HW14.out] at HT14 HN14 HM14 HO14 HF14
      clear hT13 hF13 hFs
      go_wp2_with fail
      go_roundw
      case rel => exact ⟨k + 1, pv13, dv13, wv13, rfl, by go_num, by have := HLT.out; omega, HM14.out, by rw [HDE.out]; exact HN14.out, by rw [HDE.out]; exact HT14.out, HO14.out, HF14.out, by rw [HDE.out]; exact HPL'.out⟩
      case measure => have := HLT.out; simp [intOf] <;> omega
    · have hge : ¬ ((k : Int) < (os2.length : Int)) := by omega
      have hkl : k = os2.length := by omega
      have HOKD : Hid (Clean (D.acts (os2.take k))) := Clean.acts _ 40 HCLN.out HDOK.out HPL.out (by rw [List.length_take]; omega) (fun y hy => (HO2.out.2 y (List.mem_of_mem_take hy)).2.2.2.2)
      clear hlt hkl
      generalize D.acts (os2.take k) = Dk at *
      have HSE : Hid (EqD D Dk ↔ SameR D Dk) := eq_same HDOK.out HT12.out.a.ok HCLN.out HOKD.out
      have HV := Lib.hid (view_c wr p' m' pv' dv wv D HDOK.out (by have := HPL.out; omega) HT12.out.b HO12.out)
      have HMr := Lib.hid (rangeAt_of HM12.out 0 (refL dv wv D) (by simp))
      go_wp2_with (first
        | (guard_target =~ wpList _ _ _ (⟨some 63, Op.load 45 _, _, _, _, _⟩ :: _) _ _; refine wlg rfl (r_load (b := b8) (i := 0) rfl rfl HMr.out Try.underlying45 rfl (by rw [sz45]; rfl)) ?_; simp only [Act.put, List.setIfInBounds_toArray, List.set_cons_zero, List.set_cons_succ])
        | (go_at_call 30; refine HV.out.mono ?_; rintro e w0 ⟨rfl, hF0⟩; have HF0 := Lib.hid hF0; clear hF0)
        | (go_at_call 31; refine (Equal_nil w0 p).mono ?_; rintro e w0' ⟨rfl, rfl⟩)
        | fail)
      have HF00 : Hid (Fr Non w w0) := (HF2.out.trans HF12.out (fun _ _ h => h)).trans HF0.out (fun _ _ h => h)
      have HT0 := Lib.hid (HT12.out.non HF0.out)
      have HO0 := Lib.hid (HO12.out.non HF0.out)
      have HL8 : Hid (∀ W, Fr Non w0 W → W.rangeAt b8 0 (refL dv wv D)) := fun W hW => rangeAt_of ((HF0.out.trans hW (fun _ _ h => h)).keep HM12.out (fun h => h)) 0 _ (by simp)
      have HL11 : Hid (∀ W, Fr Non w0 W → W.rangeAt b11 0 (refL dvk wvk Dk)) := fun W hW => rangeAt_of ((HF0.out.trans hW (fun _ _ h => h)).keep HN12.out (fun h => h)) 0 _ (by simp)
      have HEQ : Hid (∀ W, Fr Non w0 W → Calls Try.prog 31 #[.pointer (some ⟨p', 0, none⟩), .pointer (some ⟨p, 0, none⟩)] W fun e w' => BoolIs W w' e (EqD D Dk)) := fun W hW =>
        Equal_all W p' m' pv' D p m pvk Dk ((HT0.out.non hW).b) ((HT0.out.non hW).a.d) (by have := HPL.out; omega)
      have HSM : Hid (∀ W, Fr Non w0 W → Calls Try.prog 32 #[.agg (refL dv wv D).toArray, .agg (refL dvk wvk Dk).toArray] W fun e w' => BoolIs W w' e (SameR D Dk)) := fun W hW =>
        Same_all W dv wv D dvk wvk Dk HDOK.out HT0.out.a.ok (HO0.out.non hW) ((HT0.out.non hW).a.r)
      refine rc (fun W : World => Fr Non w0 W) 6 (by kernel_rfl) ?_
      have hS : (fun W : World => Fr Non w0 W) w0.drew := (Fr.refl _ w0).drew
      have HFX : Hid (Fr Non w0 w0.drew) := (Fr.refl _ w0).drew
      refine tp (i := 0) (v := .pointer (some ⟨p', 0, none⟩)) rfl (by kernel_rfl) (fun _ _ _ h => h) rfl (fun W0 => r_move rfl rfl) (.inr hS) ?_
      simp only [Act.put, List.setIfInBounds_toArray, List.set_cons_zero, List.set_cons_succ]
      refine tp (i := 1) (v := .pointer (some ⟨p, 0, none⟩)) rfl (by kernel_rfl) (fun _ _ _ h => h) rfl (fun W0 => r_move rfl rfl) (.inr hS) ?_
      simp only [Act.put, List.setIfInBounds_toArray, List.set_cons_zero, List.set_cons_succ]
      refine tc (i := 3) (v := .agg (refL dv wv D).toArray) rfl 8 (by kernel_rfl) (fun _ _ _ h => h) rfl (fun W0 hw => r_load (b := b8) (i := 0) rfl rfl (HL8.out W0 hw) Try.underlying45 rfl (by rw [sz45]; rfl)) hS ?_
      simp only [Act.put, List.setIfInBounds_toArray, List.set_cons_zero, List.set_cons_succ]
      refine tc (i := 4) (v := .agg (refL dvk wvk Dk).toArray) rfl 8 (by kernel_rfl) (fun _ _ _ h => h) rfl (fun W0 hw => r_load (b := b11) (i := 0) rfl rfl (HL11.out W0 hw) Try.underlying45 rfl (by rw [sz45]; rfl)) hS ?_
      simp only [Act.put, List.setIfInBounds_toArray, List.set_cons_zero, List.set_cons_succ]
      clear hS
      refine oc1 (i := 2) rfl (by kernel_rfl) rfl ?_
      unfold Oper.wp
      go_simp
      refine (HEQ.out _ HFX.out).mono ?_
      rintro e w5 ⟨b1, rfl, hb1, hF5⟩
      have HB1 := Lib.hid hb1
      have HFX := Lib.hid (HFX.out.trans hF5 (fun _ _ h => h))
      clear hb1 hF5
      refine ⟨HFX.out, ?_⟩
      refine oc1 (i := 5) rfl (by kernel_rfl) rfl ?_
      unfold Oper.wp
      go_simp
      refine (HSM.out _ HFX.out).mono ?_
      rintro e w6 ⟨b2, rfl, hb2, hF6⟩
      have HB2 := Lib.hid hb2
      have HFX := Lib.hid (HFX.out.trans hF6 (fun _ _ h => h))
      clear hb2 hF6
      refine ⟨HFX.out, ?_⟩
      refine oc2 (i := 6) (v := .bool (b1 == b2)) rfl (by kernel_rfl) rfl (by kernel_rfl) (run_eqlB (x := .tmp 73) (y := .tmp 76) (b := b1) (c := b2) rfl Try.underlying4 rfl rfl rfl) ?_
      simp only [Act.put, List.setIfInBounds_toArray, List.set_cons_zero, List.set_cons_succ]
      refine tp (i := 7) (v := .bool (b1 == b2)) rfl (by kernel_rfl) (fun _ _ _ h => h) rfl (fun W0 => r_assign rfl rfl) (.inl (by kernel_rfl)) ?_
      simp only [Act.put, List.setIfInBounds_toArray, List.set_cons_zero, List.set_cons_succ]
      refine dc (by kernel_rfl) ?_
      go_wp2_with fail
      go_ret
      have hbb : b1 = b2 := bool_eq (HB1.out.trans (HSE.out.trans HB2.out.symm))
      exact ⟨by rw [hbb]; simp, HF00.out.trans HFX.out (fun _ _ h => h)⟩
end Go.Proofs.Yticgkbpmaakkiaa
