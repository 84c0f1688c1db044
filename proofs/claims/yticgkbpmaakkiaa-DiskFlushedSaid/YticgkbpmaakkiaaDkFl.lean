/- DiskFlushed returns true for every input and leaves what was there unchanged. No condition. -/
import Derived.Test.YticgkbpmaakkiaaRows
import Derived.Test.YticgkbpmaakkiaaDl7
import Derived.WalkKit
import Derived.ProofKit
import Derived.OpenShut
import Derived.ShutString
import Derived.Below
import Derived.Carry
import Derived.Deep.Slices
namespace Go.Proofs.Yticgkbpmaakkiaa
open Go.ChangeShapes Go.WideShapes Go.ChangeAt Go.RowKit Go.Deep
open Go.ChangeMaps (open_string shut_string)
set_option linter.unusedVariables false

theorem flushed_laid : laidOutB Try.prog = true := by kernel_rfl
theorem flushed_own : ownKnob Try.prog.godebug = none := by kernel_rfl

theorem cells56 : Try.prog.cellsOf 56 = 4 := by kernel_rfl
theorem cells40 : Try.prog.cellsOf 40 = 1 := by kernel_rfl
theorem cells_agg {v : Value} {l : List Value} (h : v.cells.toList = l) (hl : l.length ≠ 1) : v = .agg l.toArray := by
  subst h
  cases v <;> first | rfl | (exfalso; exact hl rfl)
theorem crash_of {H : Type} {enc : TypeId × Value → H} {w : World} {base : Nat} {spare : Nat → Bool} {held : Bool} {n : Nat} {cs0 : List Value} {x : DataW H × List MemPlace} (h : DataW.trod enc Try.prog w base spare held n 56 cs0 = some x) :
    ∃ (s : Nat) (a : Option Addr) (cap : Nat) (os : List OpX) (a2 : Option Addr) (cap2 : Nat) (os2 : List OpX) (ca : Option Addr) (cc : Nat) (cs : List UInt8),
      cs0 = [.int .u8 (s : Int), .slice a os.length cap, .slice a2 os2.length cap2, .slice ca cs.length cc] ∧ s < 256 ∧ OpsAt w a os ∧ OpsAt w a2 os2 ∧ ChAt w ca cc cs := by
  obtain ⟨xs, n', rfl, rfl, hlen, hxl, hf⟩ := DataW.trod_struct Try.underlying56 h
  rw [cells56] at hlen
  have hx : ∀ i, i < 4 → (xs[i]?).isSome = true := fun i hi => by rw [List.getElem?_eq_getElem (by rw [hxl]; exact hi)]; rfl
  obtain ⟨s, e0⟩ := u8_of Try.underlying5 cells5 (hf 0 _ rfl) (hx 0 (by omega))
  obtain ⟨y1, h1⟩ := Option.isSome_iff_exists.1 (hx 1 (by omega))
  have g1 := hf 1 _ rfl
  rw [h1] at g1
  obtain ⟨a, cap, os, e1, ho1⟩ := ops_of g1
  obtain ⟨y2, h2⟩ := Option.isSome_iff_exists.1 (hx 2 (by omega))
  have g2 := hf 2 _ rfl
  rw [h2] at g2
  obtain ⟨a2, cap2, os2, e2, ho2⟩ := ops_of g2
  obtain ⟨y3, h3⟩ := Option.isSome_iff_exists.1 (hx 3 (by omega))
  have g3 := hf 3 _ rfl
  rw [h3] at g3
  obtain ⟨ca, cc, l, e3, hc⟩ := ch_of g3
  have e1' : cs0[1]? = some (.slice a os.length cap) := take1 (o := 1) ((congrArg (fun q => (cs0.drop 1).take q) cells40.symm).trans e1)
  have e2' : cs0[2]? = some (.slice a2 os2.length cap2) := take1 (o := 2) ((congrArg (fun q => (cs0.drop 2).take q) cells40.symm).trans e2)
  have e3' : cs0[3]? = some (.slice ca l.length cc) := take1 (o := 3) ((congrArg (fun q => (cs0.drop 3).take q) cells30.symm).trans e3)
  refine ⟨s.toNat, a, cap, os, a2, cap2, os2, ca, cc, l, ?_, UInt8.toNat_lt s, ho1, ho2, hc⟩
  apply List.ext_getElem?
  intro i
  match i with
  | 0 => exact e0
  | 1 => exact e1'
  | 2 => exact e2'
  | 3 => exact e3'
  | i + 4 => rw [List.getElem?_eq_none (by omega), List.getElem?_eq_none (by simp)]

theorem flushed_walk (w : World) (s : Nat) (hs : s < 256) (a : Option Addr) (cap : Nat) (os : List OpX) (a2 : Option Addr) (cap2 : Nat) (os2 : List OpX) (ca : Option Addr) (cc : Nat) (cs : List UInt8) (ho : OpsAt w a os) (ho2 : OpsAt w a2 os2) (hch : ChAt w ca cc cs) :
    Calls Try.prog 7 #[.agg #[.int .u8 s, .slice a os.length cap, .slice a2 os2.length cap2, .slice ca cs.length cc]] w fun e w' => e = .returned (.bool true) ∧ Fr Non w w' := by
  by_cases h1 : os.length ≤ 40
  · by_cases h2 : os2.length ≤ 40
    · by_cases h3 : cs.length ≤ 100
      · exact Flushed_small w s hs a cap os a2 cap2 os2 ca cc cs h1 h2 h3 ho ho2 hch
      · exact Flushed_big3 w s a _ cap a2 _ cap2 ca _ cc h1 h2 (by omega)
    · exact Flushed_big2 w s a _ cap a2 _ cap2 ca _ cc h1 h2
  · exact Flushed_big1 w s a _ cap a2 _ cap2 ca _ cc h1

set_option maxRecDepth 100000 in
theorem flushed_lifted (os : Os) (started : os.Started) (H : Type) (enc : TypeId × Value → H) :
    ReturnsInHanded {} Try.checked os 7 .any (Rows.diskFlushedSpec.pre6 enc Try.prog Try.f7 Rows.diskFlushedRow.domain false) (Rows.diskFlushedSpec.post enc Try.prog Try.f7 false true false false) := by
  refine returnsInHanded_of_change (C := Try.checked) flushed_own started (by kernel_rfl) Try.func7
    (ChangeSpec.witness6 (enc := enc) (C := Try.checked) false ⟨#[], #[.agg #[.int .u8 0, .slice none 0 0, .slice none 0 0, .slice none 0 0]], []⟩ 8 (by kernel_rfl) (by kernel_rfl) (by kernel_rfl) (by kernel_rfl)) ?_
  intro W base args ds gs before hval0 hW hcnd _
  have hval : ∀ (j : Nat) t v, Try.f7.params[j]? = some t → args[j]? = some v → Value.okWide Try.prog W .any base t v := hval0
  have hW' := hW
  obtain ⟨p, q, hA0, hV, rfl, hfz, hnd⟩ := hW
  have hA : DataW.TrodAll enc Try.prog W 0 (fun _ => true) true Try.f7.params.toList args.toList ds p := hA0
  rw [Try.params7] at hA hval
  obtain ⟨v0, vs0, d0, ds0, p0, q0, hargs, rfl, rfl, h0, r0⟩ := trodAll_cons hA
  obtain ⟨rfl, rfl, rfl⟩ := trodAll_nil r0
  obtain rfl : args = #[v0] := by cases args; simp_all
  obtain ⟨rfl, rfl⟩ := trodVars_none hV
  have k0 := h0
  have lt0 : ∀ x ∈ p0, x.block < W.heap.size := by obtain ⟨m, hm⟩ := k0; exact DataW.trod_lt m _ _ _ hm
  obtain ⟨fu0, hfu0⟩ := h0
  obtain ⟨s, a1, cap1, os1, a2, cap2, os2, ca, cc, cs, hv0, hs0, ho1, ho2, ho3⟩ := crash_of hfu0
  obtain rfl := cells_agg hv0 (by simp)
  clear hA0 hval0
  simp only [List.append_nil] at hW'
  refine (flushed_walk W s hs0 a1 cap1 os1 a2 cap2 os2 ca cc cs ho1 ho2 ho3).mono fun e W' ⟨he, bel0⟩ => ?_
  have bel := bel0.to_new
  subst he
  exact ⟨_, rfl, _, _, _, [], _, [], hW', trodAll_mk1 (shut_bool Try.underlying4 _), (trodAll_cons_mk (Below.trod flushed_laid (by kernel_rfl) (of_decide_eq_true (by kernel_rfl)) k0 bel lt0) trodAll_mk0), rfl, bel.frame _, fun h => by cases h⟩

theorem flushed_over : Rows.diskFlushedRow.holds Try.pinned (OpenSpec.ofChange Rows.diskFlushedSpec) :=
  OpenClaim.holds_of_wide 7 Try.f7 rfl rfl rfl rfl rfl rfl rfl ⟨rfl, rfl, rfl, rfl, rfl⟩ rfl rfl rfl rfl rfl (by kernel_rfl) Try.func7 (by kernel_rfl)
    (of_decide_eq_true (by kernel_rfl)) (by unfold Func.isWrapper; first | (rw [if_pos (by decide +kernel)]; kernel_rfl) | (rw [if_neg (by decide +kernel)]; exact ⟨rfl, rfl⟩))
    (fun os started H enc _ => flushed_lifted os started H enc)

/-- The statement. -/
theorem diskFlushed_proved : Rows.DiskFlushedSaid :=
  flushed_over
#print axioms diskFlushed_proved
end Go.Proofs.Yticgkbpmaakkiaa
