/- DiskSparse returns true for every input and leaves what was there unchanged. No condition. -/
import Derived.Test.YticgkbpmaakkiaaRows
import Derived.Test.YticgkbpmaakkiaaDmCq
import Derived.WalkKit
import Derived.ProofKit
import Derived.OpenShut
import Derived.ShutString
import Derived.Below
import Derived.Carry
import Derived.Deep.Slices
namespace Go.Proofs.Yticgkbpmaakkiaa
open Go.ChangeShapes Go.WideShapes Go.ChangeAt Go.RowKit Go.Deep
open Go.ChangeMaps (open_string shut_string)
set_option linter.unusedVariables false

theorem dsparse_laid : laidOutB Try.prog = true := by kernel_rfl
theorem dsparse_own : ownKnob Try.prog.godebug = none := by kernel_rfl

theorem sparse_walk (n : Int) (w0 : (Lit.int .u8 n).wf = true) (w : World) (a : Option Addr) (cap : Nat) (os : List OpX) (ho : OpsAt w a os) (stop : Int) :
    Calls Try.prog 9 #[.int .u8 n, .slice a os.length cap, .int .i64 stop] w fun e w' => e = .returned (.bool true) ∧ Fr Non w w' := by
  obtain ⟨k, rfl, hk⟩ := u8_nat w0
  by_cases h : os.length ≤ 40
  · exact Sparse_small w k hk a cap os stop h ho
  · exact Sparse_big w k a os.length cap stop h

set_option maxRecDepth 100000 in
theorem dsparse_lifted (os : Os) (started : os.Started) (H : Type) (enc : TypeId × Value → H) :
    ReturnsInHanded {} Try.checked os 9 .any (Rows.diskSparseSpec.pre6 enc Try.prog Try.f9 Rows.diskSparseRow.domain false) (Rows.diskSparseSpec.post enc Try.prog Try.f9 false true false false) := by
  refine returnsInHanded_of_change (C := Try.checked) dsparse_own started (by kernel_rfl) Try.func9
    (ChangeSpec.witness6 (enc := enc) (C := Try.checked) false ⟨#[], #[.int .u8 0, .slice none 0 0, .int .i64 0], []⟩ 8 (by kernel_rfl) (by kernel_rfl) (by kernel_rfl) (by kernel_rfl)) ?_
  intro W base args ds gs before hval0 hW hcnd _
  have hval : ∀ (j : Nat) t v, Try.f9.params[j]? = some t → args[j]? = some v → Value.okWide Try.prog W .any base t v := hval0
  have hW' := hW
  obtain ⟨p, q, hA0, hV, rfl, hfz, hnd⟩ := hW
  have hA : DataW.TrodAll enc Try.prog W 0 (fun _ => true) true Try.f9.params.toList args.toList ds p := hA0
  rw [Try.params9] at hA hval
  obtain ⟨v0, vs0, d0, ds0, p0, q0, hargs, rfl, rfl, h0, r0⟩ := trodAll_cons hA
  obtain ⟨v1, vs1, d1, ds1, p1, q1, rfl, rfl, rfl, h1, r1⟩ := trodAll_cons r0
  obtain ⟨v2, vs2, d2, ds2, p2, q2, rfl, rfl, rfl, h2, r2⟩ := trodAll_cons r1
  obtain ⟨rfl, rfl, rfl⟩ := trodAll_nil r2
  obtain rfl : args = #[v0, v1, v2] := by cases args; simp_all
  obtain ⟨rfl, rfl⟩ := trodVars_none hV
  obtain ⟨a0, rfl, rfl, rfl, w0⟩ := open_int Try.underlying5 (hval 0 5 v0 rfl rfl) h0
  have k1 := h1
  have lt1 : ∀ x ∈ p1, x.block < W.heap.size := by obtain ⟨m, hm⟩ := k1; exact DataW.trod_lt m _ _ _ hm
  obtain ⟨fu1, hfu1⟩ := h1
  obtain ⟨a1, cap1, os1, hv1, ho1⟩ := ops_of hfu1
  obtain rfl := cells_slice hv1 (okWide_slice Try.underlying40 (hval 1 40 v1 rfl rfl))
  obtain ⟨a2, rfl, rfl, rfl, w2⟩ := open_int Try.underlying3 (hval 2 3 v2 rfl rfl) h2
  clear hA0 hval0
  refine (sparse_walk a0 w0 W a1 cap1 os1 ho1 a2).mono fun e W' ⟨he, bel0⟩ => ?_
  have bel := bel0.to_new
  subst he
  exact ⟨_, rfl, _, _, _, [], _, [], hW', trodAll_mk1 (shut_bool Try.underlying4 _), (trodAll_cons_mk (shut_int Try.underlying5 w0) (trodAll_cons_mk (Below.trod dsparse_laid (by kernel_rfl) (of_decide_eq_true (by kernel_rfl)) k1 bel lt1) (trodAll_cons_mk (shut_int Try.underlying3 w2) trodAll_mk0))), rfl, bel.frame _, fun h => by cases h⟩

theorem dsparse_over : Rows.diskSparseRow.holds Try.pinned (OpenSpec.ofChange Rows.diskSparseSpec) :=
  OpenClaim.holds_of_wide 9 Try.f9 rfl rfl rfl rfl rfl rfl rfl ⟨rfl, rfl, rfl, rfl, rfl⟩ rfl rfl rfl rfl rfl (by kernel_rfl) Try.func9 (by kernel_rfl)
    (of_decide_eq_true (by kernel_rfl)) (by unfold Func.isWrapper; first | (rw [if_pos (by decide +kernel)]; kernel_rfl) | (rw [if_neg (by decide +kernel)]; exact ⟨rfl, rfl⟩))
    (fun os started H enc _ => dsparse_lifted os started H enc)

/-- The statement. -/
theorem diskSparse_proved : Rows.DiskSparseSaid :=
  dsparse_over
end Go.Proofs.Yticgkbpmaakkiaa
