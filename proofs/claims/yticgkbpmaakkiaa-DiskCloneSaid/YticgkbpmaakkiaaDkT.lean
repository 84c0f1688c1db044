/-
  What an operation makes of the state, and its code: the device's methods and the reference's functions say the same.
-/
import Derived.Test.YticgkbpmaakkiaaDkS
namespace Go.Proofs.Yticgkbpmaakkiaa
open Go.RowKit

theorem BytesAt.fr0 {S : Nat → Prop} {w w' : World} (hf : Fr S w w') {sv : Value} {l : List UInt8} (h : BytesAt w sv l) (hn : l = [] ∨ ∀ k, sv.ownBlock = some k → ¬ S k) : BytesAt w' sv l := by
  rcases hn with rfl | hn
  · obtain ⟨a, cap, e, _⟩ := h
    exact ⟨a, cap, e, .inl rfl⟩
  · exact h.fr hf hn

def Dsk.wr (D : Dsk) (n : Int) (s : Sec) : Dsk × Int :=
  if D.down = true then (D, 28) else if D.has n = false then (D, 8) else if D.spent = true then ({ D with down := true }, 28) else ({ D.count with pend := D.pend ++ [(n, s)] }, 0)
def Dsk.wrong (D : Dsk) (n : Int) : Int := if D.down = true then 28 else if D.has n = false then 8 else 2
def Dsk.fl (D : Dsk) : Dsk × Int :=
  if D.down = true then (D, 28) else if D.spent = true then ({ D with down := true }, 28) else ({ D.count.storeAll D.pend with pend := [] }, 0)
def Dsk.re (D : Dsk) (cs : List UInt8) : Dsk × Int := if D.down = false then (D, 10) else (D.restart cs, 0)
def Dsk.da (D : Dsk) (n i : Int) (b : UInt8) : Dsk × Int := if D.has n = false then (D, 8) else if i < 0 ∨ 256 ≤ i then (D, 2) else (D.damage n i.toNat b, 0)

theorem Write_all (w : World) (p m : Nat) (pv : Value) (D : Dsk) (n : Int) (g o cap : Nat) (s : Sec) (h : DiskAt w p m pv D) (hl : D.pend.length ≤ 100000) (hb : BytesAt w (.slice (some ⟨g, o, none⟩) 256 cap) s.1) (hg : g ≠ p ∧ pv.ownBlock ≠ some g) :
    Calls Try.prog 20 #[.pointer (some ⟨p, 0, none⟩), .int .i64 n, .slice (some ⟨g, o, none⟩) 256 cap] w fun e w' => e = .returned (.int .i64 (D.wr n s).2) ∧ Step w w' p m pv (D.wr n s).1 := by
  unfold Dsk.wr
  by_cases hd : D.down = true
  · rw [if_pos hd]
    refine (Write_down w p m pv D n _ h hd).mono ?_
    rintro e w' ⟨he, rfl⟩
    exact ⟨he, Step.refl h (Fr.refl _ _)⟩
  rw [if_neg hd]
  have hd' : D.down = false := by simpa using hd
  by_cases hh : D.has n = false
  · rw [if_pos hh]
    refine (Write_no w p m pv D n _ h hd' hh).mono ?_
    rintro e w' ⟨he, rfl⟩
    exact ⟨he, Step.refl h (Fr.refl _ _)⟩
  rw [if_neg hh]
  have hh' : D.has n = true := by simpa using hh
  by_cases hs : D.spent = true
  · rw [if_pos hs]
    refine (Write_spent w p m pv D n _ _ h hd' hh' hs).mono ?_
    rintro e w' ⟨he, hD, hF⟩
    exact ⟨he, Step.of_p hD hF⟩
  rw [if_neg hs]
  exact Write_ok w p m pv D n _ s h hd' hh' (by simpa using hs) hl hb (fun k e => by cases e; exact hg)

theorem Write_wrong (w : World) (p m : Nat) (pv : Value) (D : Dsk) (n : Int) (a : Option Addr) (l cap : Nat) (h : DiskAt w p m pv D) (hl : l ≠ 256) :
    Calls Try.prog 20 #[.pointer (some ⟨p, 0, none⟩), .int .i64 n, .slice a l cap] w fun e w' => e = .returned (.int .i64 (D.wrong n)) ∧ w = w' := by
  unfold Dsk.wrong
  by_cases hd : D.down = true
  · rw [if_pos hd]; exact Write_down w p m pv D n _ h hd
  rw [if_neg hd]
  have hd' : D.down = false := by simpa using hd
  by_cases hh : D.has n = false
  · rw [if_pos hh]; exact Write_no w p m pv D n _ h hd' hh
  rw [if_neg hh]
  exact Write_len w p m pv D n a l cap h hd' (by simpa using hh) hl

theorem Flush_all (w : World) (p m : Nat) (pv : Value) (D : Dsk) (h : DiskAt w p m pv D) (hl : D.pend.length ≤ 100000) :
    Calls Try.prog 19 #[.pointer (some ⟨p, 0, none⟩)] w fun e w' => e = .returned (.int .i64 D.fl.2) ∧ Step w w' p m pv D.fl.1 := by
  unfold Dsk.fl
  by_cases hd : D.down = true
  · rw [if_pos hd]
    refine (Flush_down w p m pv D h hd).mono ?_
    rintro e w' ⟨he, rfl⟩
    exact ⟨he, Step.refl h (Fr.refl _ _)⟩
  rw [if_neg hd]
  have hd' : D.down = false := by simpa using hd
  by_cases hs : D.spent = true
  · rw [if_pos hs]
    refine (Flush_spent w p m pv D h hd' hs).mono ?_
    rintro e w' ⟨he, hD, hF⟩
    exact ⟨he, Step.of_p hD hF⟩
  rw [if_neg hs]
  exact Flush_ok w p m pv D h hd' (by simpa using hs) hl

set_option maxRecDepth 100000 in
theorem Restart_up (w : World) (p m : Nat) (pv : Value) (D : Dsk) (sv : Value) (h : DiskAt w p m pv D) (hd : D.down = false) :
    Calls Try.prog 25 #[.pointer (some ⟨p, 0, none⟩), sv] w fun e w' => e = .returned (.int .i64 10) ∧ w = w' := by
  obtain ⟨c0, c1, c2, c3, c4, c5, c6⟩ := h.cell
  rw [hd] at c6
  clear h c0 c1 c2 c3 c4 c5
  go_enter Try.func25, Try.ntmps25
  go_wp2
  go_ret
  exact ⟨rfl, rfl⟩
set_option maxRecDepth 100000 in
theorem Restart_nil (w : World) (sv : Value) : Calls Try.prog 25 #[.pointer none, sv] w fun e w' => e = .returned (.int .i64 1) ∧ w = w' := by
  go_enter Try.func25, Try.ntmps25
  go_wp2
  go_ret
  exact ⟨rfl, rfl⟩
theorem Restart_all (w : World) (p m : Nat) (pv : Value) (D : Dsk) (sv : Value) (cs : List UInt8) (h : DiskAt w p m pv D) (hl : D.pend.length ≤ 100000) (hb : BytesAt w sv cs) (hsp : cs = [] ∨ ∀ k, sv.ownBlock = some k → k ≠ m) (hcs : cs.length ≤ 9223372036854775807) :
    Calls Try.prog 25 #[.pointer (some ⟨p, 0, none⟩), sv] w fun e w' => e = .returned (.int .i64 (D.re cs).2) ∧ Step w w' p m pv (D.re cs).1 := by
  unfold Dsk.re
  by_cases hd : D.down = false
  · rw [if_pos hd]
    refine (Restart_up w p m pv D sv h hd).mono ?_
    rintro e w' ⟨he, rfl⟩
    exact ⟨he, Step.refl h (Fr.refl _ _)⟩
  rw [if_neg hd]
  exact Restart_ok w p m pv D sv cs h (by simpa using hd) hl hb hsp hcs

theorem Damage_all (w : World) (p m : Nat) (pv : Value) (D : Dsk) (n i : Int) (b : UInt8) (h : DiskAt w p m pv D) (hl : D.pend.length ≤ 100000) :
    Calls Try.prog 35 #[.pointer (some ⟨p, 0, none⟩), .int .i64 n, .int .i64 i, .int .u8 b.toNat] w fun e w' => e = .returned (.int .i64 (D.da n i b).2) ∧ Step w w' p m pv (D.da n i b).1 := by
  unfold Dsk.da
  by_cases hh : D.has n = false
  · rw [if_pos hh]
    refine (Damage_no w p m pv D n i _ h hh).mono ?_
    rintro e w' ⟨he, rfl⟩
    exact ⟨he, Step.refl h (Fr.refl _ _)⟩
  rw [if_neg hh]
  have hh' : D.has n = true := by simpa using hh
  by_cases hi : i < 0 ∨ 256 ≤ i
  · rw [if_pos hi]
    refine (Damage_at w p m pv D n i _ h hh' hi).mono ?_
    rintro e w' ⟨he, rfl⟩
    exact ⟨he, Step.refl h (Fr.refl _ _)⟩
  rw [if_neg hi]
  obtain ⟨j, rfl⟩ : ∃ j : Nat, i = j := ⟨i.toNat, by omega⟩
  refine (Damage_ok w p m pv D n j b h hh' (by omega) hl).mono ?_
  rintro e w' ⟨he, hD, hF⟩
  exact ⟨he, pv, hD, hF, fun k hk => .inl hk⟩

/-! ### the reference -/
def RefTo (w w' : World) (e : Ending) (r : Dsk × Int) : Prop := ∃ dv' wv', e = .returned (.tuple #[.agg (refL dv' wv' r.1).toArray, .int .i64 r.2]) ∧ RefAt w' dv' wv' r.1 ∧ Fr Non w w'
theorem RefTo.same {w w' : World} {e : Ending} {dv wv : Value} {D : Dsk} {c : Int} (h : RefAt w dv wv D) (he : e = .returned (.tuple #[.agg (refL dv wv D).toArray, .int .i64 c]) ∧ Fr Non w w') : RefTo w w' e (D, c) := ⟨dv, wv, he.1, h.non he.2, he.2⟩

theorem RWrite_all (w : World) (dv wv : Value) (D : Dsk) (n : Int) (g o cap : Nat) (s : Sec) (hD : Dok D) (h : RefAt w dv wv D) (hl : D.pend.length ≤ 49999) (hb : BytesAt w (.slice (some ⟨g, o, none⟩) 256 cap) s.1) :
    Calls Try.prog 47 #[.agg (refL dv wv D).toArray, .int .i64 n, .slice (some ⟨g, o, none⟩) 256 cap] w fun e w' => RefTo w w' e (D.wr n s) := by
  unfold Dsk.wr
  by_cases hd : D.down = true
  · rw [if_pos hd]; exact (RWrite_down w dv wv D n _ _ _ h hd).mono fun e w' he => RefTo.same h he
  rw [if_neg hd]
  have hd' : D.down = false := by simpa using hd
  by_cases hh : D.has n = false
  · rw [if_pos hh]; exact (RWrite_no w dv wv D n _ _ _ hD h hd' hh).mono fun e w' he => RefTo.same h he
  rw [if_neg hh]
  have hh' : D.has n = true := by simpa using hh
  by_cases hs : D.spent = true
  · rw [if_pos hs]; exact RWrite_spent w dv wv D n _ _ hD h hd' hh' hs
  rw [if_neg hs]
  exact RWrite_ok w dv wv D n _ s hD h hd' hh' (by simpa using hs) hl hb
theorem RWrite_wrong (w : World) (dv wv : Value) (D : Dsk) (n : Int) (a : Option Addr) (l cap : Nat) (hD : Dok D) (h : RefAt w dv wv D) (hl : l ≠ 256) :
    Calls Try.prog 47 #[.agg (refL dv wv D).toArray, .int .i64 n, .slice a l cap] w fun e w' => RefTo w w' e (D, D.wrong n) := by
  unfold Dsk.wrong
  by_cases hd : D.down = true
  · rw [if_pos hd]; exact (RWrite_down w dv wv D n _ _ _ h hd).mono fun e w' he => RefTo.same h he
  rw [if_neg hd]
  have hd' : D.down = false := by simpa using hd
  by_cases hh : D.has n = false
  · rw [if_pos hh]; exact (RWrite_no w dv wv D n _ _ _ hD h hd' hh).mono fun e w' he => RefTo.same h he
  rw [if_neg hh]
  exact (RWrite_len w dv wv D n a l cap hD h hd' (by simpa using hh) hl).mono fun e w' he => RefTo.same h he
theorem RFlush_all (w : World) (dv wv : Value) (D : Dsk) (hD : Dok D) (h : RefAt w dv wv D) :
    Calls Try.prog 28 #[.agg (refL dv wv D).toArray] w fun e w' => RefTo w w' e D.fl := by
  unfold Dsk.fl
  by_cases hd : D.down = true
  · rw [if_pos hd]; exact (RFlush_down w dv wv D h hd).mono fun e w' he => RefTo.same h he
  rw [if_neg hd]
  have hd' : D.down = false := by simpa using hd
  by_cases hs : D.spent = true
  · rw [if_pos hs]; exact RFlush_spent w dv wv D hD h hd' hs
  rw [if_neg hs]
  exact RFlush_ok w dv wv D hD h hd' (by simpa using hs)
theorem RRestart_all (w : World) (dv wv : Value) (D : Dsk) (a : Option Addr) (l c : Nat) (cs : List UInt8) (hD : Dok D) (h : RefAt w dv wv D) (hcs : cs.length ≤ 9223372036854775807) (hb : BytesAt w (.slice a l c) cs) :
    Calls Try.prog 49 #[.agg (refL dv wv D).toArray, .slice a l c] w fun e w' => RefTo w w' e (D.re cs) := by
  unfold Dsk.re
  by_cases hd : D.down = false
  · rw [if_pos hd]; exact (RRestart_up w dv wv D a l c h hd).mono fun e w' he => RefTo.same h he
  rw [if_neg hd]
  exact RRestart_ok w dv wv D _ cs hD h (by simpa using hd) hcs hb
theorem RDamage_all (w : World) (dv wv : Value) (D : Dsk) (n i : Int) (b : UInt8) (hD : Dok D) (h : RefAt w dv wv D) :
    Calls Try.prog 50 #[.agg (refL dv wv D).toArray, .int .i64 n, .int .i64 i, .int .u8 b.toNat] w fun e w' => RefTo w w' e (D.da n i b) := by
  unfold Dsk.da
  by_cases hh : D.has n = false
  · rw [if_pos hh]; exact (RDamage_no w dv wv D n i _ hD h hh).mono fun e w' he => RefTo.same h he
  rw [if_neg hh]
  have hh' : D.has n = true := by simpa using hh
  by_cases hi : i < 0 ∨ 256 ≤ i
  · rw [if_pos hi]; exact (RDamage_at w dv wv D n i _ hD h hh' hi).mono fun e w' he => RefTo.same h he
  rw [if_neg hi]
  obtain ⟨j, rfl⟩ : ∃ j : Nat, i = j := ⟨i.toNat, by omega⟩
  exact RDamage_ok w dv wv D n j b hD h hh' (by omega)
end Go.Proofs.Yticgkbpmaakkiaa
