/- DiskExtremes returns true for every input and leaves what was there unchanged. No condition. -/
import Derived.Test.YticgkbpmaakkiaaRows
import Derived.Test.YticgkbpmaakkiaaDl5
import Derived.WalkKit
import Derived.ProofKit
import Derived.OpenShut
import Derived.ShutString
import Derived.Below
import Derived.Carry
import Derived.Deep.Slices
namespace Go.Proofs.Yticgkbpmaakkiaa
open Go.ChangeShapes Go.WideShapes Go.ChangeAt Go.RowKit Go.Deep
open Go.ChangeMaps (open_string shut_string)
set_option linter.unusedVariables false

theorem extremes_laid : laidOutB Try.prog = true := by kernel_rfl
theorem extremes_own : ownKnob Try.prog.godebug = none := by kernel_rfl

theorem extremes_walk (n : Int) (w0 : (Lit.int .u8 n).wf = true) (w : World) (a : Option Addr) (cap : Nat) (os : List OpX) (ho : OpsAt w a os) :
    Calls Try.prog 6 #[.int .u8 n, .slice a os.length cap] w fun e w' => e = .returned (.bool true) ∧ Fr Non w w' := by
  obtain ⟨k, rfl, hk⟩ := u8_nat w0
  by_cases h : os.length ≤ 40
  · exact Extremes_small w k hk a cap os h ho
  · exact Extremes_big w k a os.length cap (by omega)

set_option maxRecDepth 100000 in
theorem extremes_lifted (os : Os) (started : os.Started) (H : Type) (enc : TypeId × Value → H) :
    ReturnsInHanded {} Try.checked os 6 .any (Rows.diskExtremesSpec.pre6 enc Try.prog Try.f6 Rows.diskExtremesRow.domain false) (Rows.diskExtremesSpec.post enc Try.prog Try.f6 false true false false) := by
  refine returnsInHanded_of_change (C := Try.checked) extremes_own started (by kernel_rfl) Try.func6
    (ChangeSpec.witness6 (enc := enc) (C := Try.checked) false ⟨#[], #[.int .u8 0, .slice none 0 0], []⟩ 8 (by kernel_rfl) (by kernel_rfl) (by kernel_rfl) (by kernel_rfl)) ?_
  intro W base args ds gs before hval0 hW hcnd _
  have hval : ∀ (j : Nat) t v, Try.f6.params[j]? = some t → args[j]? = some v → Value.okWide Try.prog W .any base t v := hval0
  have hW' := hW
  obtain ⟨p, q, hA0, hV, rfl, hfz, hnd⟩ := hW
  have hA : DataW.TrodAll enc Try.prog W 0 (fun _ => true) true Try.f6.params.toList args.toList ds p := hA0
  rw [Try.params6] at hA hval
  obtain ⟨v0, vs0, d0, ds0, p0, q0, hargs, rfl, rfl, h0, r0⟩ := trodAll_cons hA
  obtain ⟨v1, vs1, d1, ds1, p1, q1, rfl, rfl, rfl, h1, r1⟩ := trodAll_cons r0
  obtain ⟨rfl, rfl, rfl⟩ := trodAll_nil r1
  obtain rfl : args = #[v0, v1] := by cases args; simp_all
  obtain ⟨rfl, rfl⟩ := trodVars_none hV
  obtain ⟨a0, rfl, rfl, rfl, w0⟩ := open_int Try.underlying5 (hval 0 5 v0 rfl rfl) h0
  have k1 := h1
  have lt1 : ∀ x ∈ p1, x.block < W.heap.size := by obtain ⟨m, hm⟩ := k1; exact DataW.trod_lt m _ _ _ hm
  obtain ⟨fu1, hfu1⟩ := h1
  obtain ⟨a1, cap1, os1, hv1, ho1⟩ := ops_of hfu1
  obtain rfl := cells_slice hv1 (okWide_slice Try.underlying40 (hval 1 40 v1 rfl rfl))
  clear hA0 hval0
  refine (extremes_walk a0 w0 W a1 cap1 os1 ho1).mono fun e W' ⟨he, bel0⟩ => ?_
  have bel := bel0.to_new
  subst he
  exact ⟨_, rfl, _, _, _, [], _, [], hW', trodAll_mk1 (shut_bool Try.underlying4 _), (trodAll_cons_mk (shut_int Try.underlying5 w0) (trodAll_cons_mk (Below.trod extremes_laid (by kernel_rfl) (of_decide_eq_true (by kernel_rfl)) k1 bel lt1) trodAll_mk0)), rfl, bel.frame _, fun h => by cases h⟩

theorem extremes_over : Rows.diskExtremesRow.holds Try.pinned (OpenSpec.ofChange Rows.diskExtremesSpec) :=
  OpenClaim.holds_of_wide 6 Try.f6 rfl rfl rfl rfl rfl rfl rfl ⟨rfl, rfl, rfl, rfl, rfl⟩ rfl rfl rfl rfl rfl (by kernel_rfl) Try.func6 (by kernel_rfl)
    (of_decide_eq_true (by kernel_rfl)) (by unfold Func.isWrapper; first | (rw [if_pos (by decide +kernel)]; kernel_rfl) | (rw [if_neg (by decide +kernel)]; exact ⟨rfl, rfl⟩))
    (fun os started H enc _ => extremes_lifted os started H enc)

/-- The statement. -/
theorem diskExtremes_proved : Rows.DiskExtremesSaid :=
  extremes_over
#print axioms diskExtremes_proved
end Go.Proofs.Yticgkbpmaakkiaa
