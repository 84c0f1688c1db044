/-
  Do, one contract.
-/
import Derived.Test.YticgkbpmaakkiaaDkY
namespace Go.Proofs.Yticgkbpmaakkiaa
open Go.RowKit

def Dsk.act (D : Dsk) (o : OpS) (cs : List UInt8) : Dsk :=
  if o.kind = 0 then (D.wr o.sec o.bytes).1 else if o.kind = 1 then D.fl.1 else if o.kind = 3 then { D with down := true } else if o.kind = 4 then (D.re cs).1
  else if o.kind = 5 then D.setLimit o.at' else if o.kind = 6 then (D.da o.sec o.at' o.first).1 else D

theorem Do_c (w : World) (p m : Nat) (pv dv wv : Value) (D : Dsk) (o : OpS) (ca : Option Addr) (cl cc : Nat) (cs : List UInt8) (hcs : cs.length ≤ 9223372036854775807) (hbs : BytesAt w (.slice ca cl cc) cs) (hch : cs = [] ∨ ∀ k, (Value.slice ca cl cc).ownBlock = some k → ¬ Foot p m pv k)
    (hD : Dok D) (hl : D.pend.length ≤ 49999) (h : DiskAt w p m pv D) (hr : RefAt w dv wv D) :
    Calls Try.prog 29 #[.pointer (some ⟨p, 0, none⟩), .agg (refL dv wv D).toArray, .agg (opL o (.slice ca cl cc)).toArray] w fun e w' => DoTo w w' p m pv e (D.act o cs) := by
  unfold Dsk.act
  by_cases h0 : o.kind = 0
  · rw [if_pos h0]; exact Do_write w p m pv dv wv D o ca cl cc hD hl h hr h0
  rw [if_neg h0]
  by_cases h1 : o.kind = 1
  · rw [if_pos h1]; exact Do_flush w p m pv dv wv D o ca cl cc hD hl h hr h1
  rw [if_neg h1]
  by_cases h3 : o.kind = 3
  · rw [if_pos h3]; exact Do_fail w p m pv dv wv D o ca cl cc hD hl h hr h3
  rw [if_neg h3]
  by_cases h4 : o.kind = 4
  · rw [if_pos h4]; exact Do_restart w p m pv dv wv D o ca cl cc cs hcs hbs hch hD hl h hr h4
  rw [if_neg h4]
  by_cases h5 : o.kind = 5
  · rw [if_pos h5]; exact Do_limit w p m pv dv wv D o ca cl cc hD hl h hr h5
  rw [if_neg h5]
  by_cases h6 : o.kind = 6
  · rw [if_pos h6]; exact Do_damage w p m pv dv wv D o ca cl cc hD hl h hr h6
  rw [if_neg h6]
  by_cases h2 : o.kind = 2
  · by_cases hd : D.down = true
    · exact Do_read_down w p m pv dv wv D o ca cl cc hd hD hl h hr h2
    have hd' : D.down = false := by simpa using hd
    by_cases hh : D.has o.sec = true
    · exact Do_read_ok w p m pv dv wv D o ca cl cc hd' hh hD hl h hr h2
    · exact Do_read_no w p m pv dv wv D o ca cl cc hd' (by simpa using hh) hD hl h hr h2
  by_cases h7 : o.kind = 7
  · exact Do_wrong w p m pv dv wv D o ca cl cc hD hl h hr h7
  · exact Do_other w p m pv dv wv D o ca cl cc hD hl h hr (fun i hi hj e => by omega)

/-! ### what is kept -/
theorem count_ok {D : Dsk} (h : Dok D) (hs : D.spent = false) : ∀ hl : D.count.limited = true, 0 ≤ D.count.limit ∧ D.count.limit ≤ 9223372036854775807 := by
  intro hl
  have hl' : D.limited = true := hl
  have h1 := h.lim hl'
  unfold Dsk.spent at hs
  rw [hl'] at hs
  simp at hs
  show 0 ≤ wrap64 (D.limit - 1) ∧ wrap64 (D.limit - 1) ≤ _
  unfold wrap64
  omega

theorem act_ok (D : Dsk) (o : OpS) (cs : List UInt8) (h : Dok D) (hl : D.pend.length ≤ 49999) (ha : o.at' ≤ 9223372036854775807) : Dok (D.act o cs) ∧ (D.act o cs).pend.length ≤ D.pend.length + 1 ∧ (D.act o cs).n = D.n := by
  unfold Dsk.act
  split
  · unfold Dsk.wr
    split
    · exact ⟨h, by simp, rfl⟩
    split
    · exact ⟨h, by simp, rfl⟩
    rename_i hh
    split
    · exact ⟨⟨h.n0, h.n1, h.len, h.sec, h.lim⟩, by simp, rfl⟩
    · rename_i hs
      have hh' : 0 ≤ o.sec ∧ o.sec < D.n := by
        have : D.has o.sec = true := by simpa using hh
        unfold Dsk.has at this
        exact of_decide_eq_true this
      refine ⟨⟨h.n0, h.n1, by simp; omega, fun x hx => ?_, count_ok h (by simpa using hs)⟩, by simp, rfl⟩
      rcases List.mem_append.1 hx with hx | hx
      · exact h.sec x hx
      · rw [List.mem_singleton.1 hx]; exact hh'
  split
  · unfold Dsk.fl
    split
    · exact ⟨h, by simp, rfl⟩
    split
    · exact ⟨⟨h.n0, h.n1, h.len, h.sec, h.lim⟩, by simp, rfl⟩
    · rename_i hs
      obtain ⟨k1, k2, k3, k4, k5, k6⟩ := storeAll_keeps D.pend D.count
      exact ⟨⟨by show 1 ≤ _; rw [k2]; exact h.n0, by show _ ≤ (4096 : Int); rw [k2]; exact h.n1, Nat.zero_le _, (fun x hx => by cases hx), fun hq => by
        have hq' : (D.count.storeAll D.pend).limited = true := hq
        show 0 ≤ (D.count.storeAll D.pend).limit ∧ (D.count.storeAll D.pend).limit ≤ _
        rw [k5]; rw [k4] at hq'
        exact count_ok h (by simpa using hs) hq'⟩, Nat.zero_le _, k2⟩
  split
  · exact ⟨⟨h.n0, h.n1, h.len, h.sec, h.lim⟩, by simp, rfl⟩
  split
  · unfold Dsk.re
    split
    · exact ⟨h, by simp, rfl⟩
    · obtain ⟨k1, k2, k3, k4, k5, k6⟩ := restartTo_keeps D cs D.pend.length
      exact ⟨⟨by show 1 ≤ (D.restartTo cs D.pend.length).n; rw [k2]; exact h.n0, by show (D.restartTo cs D.pend.length).n ≤ _; rw [k2]; exact h.n1, Nat.zero_le _, (fun x hx => by cases hx), (fun hq => by cases hq)⟩, Nat.zero_le _, k2⟩
  split
  · refine ⟨⟨h.n0, h.n1, h.len, h.sec, fun hq => ?_⟩, by simp [Dsk.setLimit], rfl⟩
    show 0 ≤ max o.at' 0 ∧ max o.at' 0 ≤ _
    omega
  split
  · unfold Dsk.da
    split
    · exact ⟨h, by simp, rfl⟩
    split
    · exact ⟨h, by simp, rfl⟩
    · refine ⟨⟨h.n0, h.n1, by show (D.pend.map _).length ≤ _; rw [List.length_map]; exact h.len, fun x hx => ?_, h.lim⟩, by show (D.pend.map _).length ≤ _; rw [List.length_map]; omega, rfl⟩
      obtain ⟨y, hy, rfl⟩ := List.mem_map.1 hx
      have := h.sec y hy
      unfold dmg
      split <;> exact this
  · exact ⟨h, by simp, rfl⟩
end Go.Proofs.Yticgkbpmaakkiaa
