/-
  The operations and the choices that came in.
-/
import Derived.Test.YticgkbpmaakkiaaDl1toDl2q
import Derived.Test.YticgkbpmaakkiaaOpnq
import Derived.Below
import Derived.Carry
namespace Go.Proofs.Yticgkbpmaakkiaa
open Go.RowKit Go.Deep

section
variable {H : Type} {enc : TypeId × Value → H} {w : World} {base : Nat} {spare : Nat → Bool} {held : Bool}

theorem ints_of {t : TypeId} {k : IntKind} (ht : Try.prog.underlying t = some (.int k)) (hc : Try.prog.cellsOf t = 1) {n : Nat} {cs : List Value} {o : Nat} {y : Option (DataW H × List MemPlace)}
    (h : DataW.trod enc Try.prog w base spare held n t ((cs.drop o).take (Try.prog.cellsOf t)) = y) (hy : y.isSome = true) : ∃ m : Int, cs[o]? = some (.int k m) ∧ (Lit.int k m).wf = true := by
  obtain ⟨y', rfl⟩ := Option.isSome_iff_exists.1 hy
  rw [hc] at h
  obtain ⟨m, hm, _, hw⟩ := DataW.trod_int ht h
  exact ⟨m, take1 hm, hw⟩
theorem u8_of {t : TypeId} (ht : Try.prog.underlying t = some (.int .u8)) (hc : Try.prog.cellsOf t = 1) {n : Nat} {cs : List Value} {o : Nat} {y : Option (DataW H × List MemPlace)}
    (h : DataW.trod enc Try.prog w base spare held n t ((cs.drop o).take (Try.prog.cellsOf t)) = y) (hy : y.isSome = true) : ∃ b : UInt8, cs[o]? = some (.int .u8 (b.toNat : Int)) := by
  obtain ⟨y', rfl⟩ := Option.isSome_iff_exists.1 hy
  rw [hc] at h
  obtain ⟨b, hb⟩ := byte_of ht h
  exact ⟨b, take1 hb⟩

theorem cells3 : Try.prog.cellsOf 3 = 1 := by kernel_rfl
theorem cells5 : Try.prog.cellsOf 5 = 1 := by kernel_rfl
theorem cells30 : Try.prog.cellsOf 30 = 1 := by kernel_rfl
theorem cells60 : Try.prog.cellsOf 60 = 6 := by kernel_rfl

theorem ch_of {n : Nat} {cs : List Value} {x : DataW H × List MemPlace} (h : DataW.trod enc Try.prog w base spare held n 30 cs = some x) : ∃ ca cc, ∃ l : List UInt8, cs = [.slice ca l.length cc] ∧ ChAt w ca cc l := by
  obtain ⟨a, cap, l, rfl, h1, h2, h3, h4⟩ := bytes_of Try.underlying30 Try.underlying5 cells5 h
  refine ⟨a, cap, l, rfl, ⟨a, cap, rfl, h4.imp id (fun ⟨b, o, e1, _, e3⟩ => ⟨b, o, e1, e3⟩)⟩, by unfold maxLen at h2; omega, h4.imp id (fun ⟨b, o, e1, e2, _⟩ k hk => ?_)⟩
  rw [e1] at hk; cases hk; exact e2

theorem op_of {n : Nat} {cs : List Value} {y : DataW H × List MemPlace} (h : DataW.trod enc Try.prog w base spare held n 60 cs = some y) : ∃ x : OpX, cs = opL x.1 x.2.1 ∧ OpGood w x := by
  obtain ⟨xs, n', rfl, rfl, hlen, hxl, hf⟩ := DataW.trod_struct Try.underlying60 h
  rw [cells60] at hlen
  have hx : ∀ i, i < 6 → (xs[i]?).isSome = true := fun i hi => by rw [List.getElem?_eq_getElem (by rw [hxl]; exact hi)]; rfl
  obtain ⟨k0, e0, _⟩ := ints_of Try.underlying3 cells3 (hf 0 _ rfl) (hx 0 (by omega))
  obtain ⟨k1, e1, _⟩ := ints_of Try.underlying3 cells3 (hf 1 _ rfl) (hx 1 (by omega))
  obtain ⟨k2, e2, w2⟩ := ints_of Try.underlying3 cells3 (hf 2 _ rfl) (hx 2 (by omega))
  obtain ⟨k3, e3⟩ := u8_of Try.underlying5 cells5 (hf 3 _ rfl) (hx 3 (by omega))
  obtain ⟨k4, e4⟩ := u8_of Try.underlying5 cells5 (hf 4 _ rfl) (hx 4 (by omega))
  obtain ⟨y5, h5⟩ := Option.isSome_iff_exists.1 (hx 5 (by omega))
  have h6 := hf 5 _ rfl
  rw [h5] at h6
  obtain ⟨ca, cc, l, e5, hc⟩ := ch_of h6
  have e5' : cs[5]? = some (.slice ca l.length cc) := take1 (o := 5) (by rw [← cells30]; exact e5)
  refine ⟨(⟨k0, k1, k2, k3, k4⟩, .slice ca l.length cc, l), ?_, ⟨⟨_, _, _, rfl⟩, hc.1, hc.2.1, hc.2.2, ?_⟩⟩
  · apply List.ext_getElem?
    intro i
    match i with
    | 0 => exact e0
    | 1 => exact e1
    | 2 => exact e2
    | 3 => exact e3
    | 4 => exact e4
    | 5 => exact e5'
    | i + 6 => rw [List.getElem?_eq_none (by omega), List.getElem?_eq_none (by simp [opL])]
  · have : k2 ≤ IntKind.i64.max := by simp [Lit.wf] at w2; exact w2.2
    exact this

theorem ops_of {n : Nat} {cs : List Value} {y : DataW H × List MemPlace} (h : DataW.trod enc Try.prog w base spare held n 40 cs = some y) : ∃ a cap, ∃ os : List OpX, cs = [.slice a os.length cap] ∧ OpsAt w a os := by
  obtain ⟨a, cap, l, rfl, h1, h2, h3, h4, h5⟩ := slice_list (α := OpX) Try.underlying40 cells60 (by omega) h (fun x => opL x.1 x.2.1) (fun x => OpGood w x) (fun n cs' y hy => op_of hy)
  exact ⟨a, cap, l, rfl, h4.imp id (fun ⟨b, o, e1, _, e3⟩ => ⟨b, o, e1, fun i x hx => e3 i x hx⟩), h5⟩
end

theorem cells_slice {v : Value} {a : Option Addr} {n c : Nat} (h : v.cells.toList = [.slice a n c]) (hv : ∃ a n c, v = .slice a n c) : v = .slice a n c := by
  obtain ⟨a', n', c', rfl⟩ := hv
  have : [Value.slice a' n' c'] = [.slice a n c] := h
  exact (List.cons.inj this).1
theorem u8_nat {a : Int} (w : (Lit.int .u8 a).wf = true) : ∃ k : Nat, a = k ∧ k < 256 := by
  have e1 : IntKind.u8.min = 0 := rfl
  have e2 : IntKind.u8.max = 255 := rfl
  have : 0 ≤ a ∧ a ≤ 255 := by simp [Lit.wf] at w; omega
  exact ⟨a.toNat, by omega, by omega⟩
end Go.Proofs.Yticgkbpmaakkiaa
