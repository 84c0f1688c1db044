/- VisibilityHole returns true for every input and leaves what was there unchanged. No condition. -/
import Derived.Test.YtfemaeacmnhdlaaRows
import Derived.Test.YtfemaeacmnhdlaaVI
import Derived.WalkKit
import Derived.ProofKit
import Derived.OpenShut
import Derived.ShutString
import Derived.Below
import Derived.Carry
import Derived.Deep.Slices
namespace Go.Proofs.Ytfemaeacmnhdlaa
open Go.ChangeShapes Go.WideShapes Go.ChangeAt Go.RowKit Go.Deep
open Go.ChangeMaps (open_string shut_string)
set_option linter.unusedVariables false

theorem hole_laid : laidOutB Try.prog = true := by kernel_rfl
theorem hole_own : ownKnob Try.prog.godebug = none := by kernel_rfl

set_option maxRecDepth 100000 in
theorem hole_lifted (os : Os) (started : os.Started) (H : Type) (enc : TypeId × Value → H) :
    ReturnsInHanded {} Try.checked os 5 .any (Rows.visibilityHoleSpec.pre6 enc Try.prog Try.f5 Rows.visibilityHoleRow.domain false) (Rows.visibilityHoleSpec.post enc Try.prog Try.f5 false true false false) := by
  refine returnsInHanded_of_change (C := Try.checked) hole_own started (by kernel_rfl) Try.func5
    (ChangeSpec.witness6 (enc := enc) (C := Try.checked) false ⟨#[], #[.slice none 0 0, .slice none 0 0, .int .i64 0, .agg (rowC zeroRow).toArray], []⟩ 8 (by kernel_rfl) (by kernel_rfl) (by kernel_rfl) (by kernel_rfl)) ?_
  intro W base args ds gs before hval0 hW hcnd _
  have hval : ∀ (j : Nat) t v, Try.f5.params[j]? = some t → args[j]? = some v → Value.okWide Try.prog W .any base t v := hval0
  have hW' := hW
  obtain ⟨p, q, hA0, hV, rfl, hfz, hnd⟩ := hW
  have hA : DataW.TrodAll enc Try.prog W 0 (fun _ => true) true Try.f5.params.toList args.toList ds p := hA0
  rw [Try.params5] at hA hval
  obtain ⟨v0, vs0, d0, ds0, p0, q0, hargs, rfl, rfl, h0, r0⟩ := trodAll_cons hA
  obtain ⟨v1, vs1, d1, ds1, p1, q1, rfl, rfl, rfl, h1, r1⟩ := trodAll_cons r0
  obtain ⟨v2, vs2, d2, ds2, p2, q2, rfl, rfl, rfl, h2, r2⟩ := trodAll_cons r1
  obtain ⟨v3, vs3, d3, ds3, p3, q3, rfl, rfl, rfl, h3, r3⟩ := trodAll_cons r2
  obtain ⟨rfl, rfl, rfl⟩ := trodAll_nil r3
  obtain rfl : args = #[v0, v1, v2, v3] := by cases args; simp_all
  obtain ⟨rfl, rfl⟩ := trodVars_none hV
  have k0 := h0
  have lt0 : ∀ x ∈ p0, x.block < W.heap.size := by obtain ⟨m, hm⟩ := k0; exact DataW.trod_lt m _ _ _ hm
  obtain ⟨fu0, hfu0⟩ := h0
  obtain ⟨a0, cap0, l0, hv0, hc0, hm0, ho0, hr0⟩ := rows_of hfu0
  obtain rfl := cells_slice hv0 (okWide_slice Try.underlying22 (hval 0 22 v0 rfl rfl))
  have k1 := h1
  have lt1 : ∀ x ∈ p1, x.block < W.heap.size := by obtain ⟨m, hm⟩ := k1; exact DataW.trod_lt m _ _ _ hm
  obtain ⟨fu1, hfu1⟩ := h1
  obtain ⟨a1, cap1, l1, hv1, hc1, hm1, ho1⟩ := ids_of hfu1
  obtain rfl := cells_slice hv1 (okWide_slice Try.underlying23 (hval 1 23 v1 rfl rfl))
  obtain ⟨n2, rfl, rfl, rfl, w2⟩ := open_int Try.underlying3 (hval 2 3 v2 rfl rfl) h2
  have k3 := h3
  have lt3 : ∀ x ∈ p3, x.block < W.heap.size := by obtain ⟨m, hm⟩ := k3; exact DataW.trod_lt m _ _ _ hm
  obtain ⟨fu3, hfu3⟩ := h3
  obtain ⟨rv3, hv3, hra3⟩ := row_of hfu3
  obtain rfl := cells_agg hv3 (by rw [rowC_length]; omega)
  clear hA0 hval0
  refine (hole_walk W a0 cap0 l0 a1 cap1 l1 n2 rv3 (Nat.le_trans hc0 hm0) ho0 hr0 ho1 hra3).mono fun e W' ⟨he, bel0⟩ => ?_
  have bel := bel0.to_new
  subst he
  exact ⟨_, rfl, _, _, _, [], _, [], hW', trodAll_mk1 (shut_bool Try.underlying4 _), (trodAll_cons_mk (Below.trod hole_laid (by kernel_rfl) (of_decide_eq_true (by kernel_rfl)) k0 bel lt0) (trodAll_cons_mk (Below.trod hole_laid (by kernel_rfl) (of_decide_eq_true (by kernel_rfl)) k1 bel lt1) (trodAll_cons_mk (shut_int Try.underlying3 w2) (trodAll_cons_mk (Below.trod hole_laid (by kernel_rfl) (of_decide_eq_true (by kernel_rfl)) k3 bel lt3) trodAll_mk0)))), rfl, bel.frame _, fun h => by cases h⟩

theorem hole_inPlace : Try.prog.inPlace 5 = ["internal/bytealg.Compare"] := by kernel_rfl
theorem hole_unfollowed : Try.prog.unfollowed 5 = true := by kernel_rfl
theorem hole_recurses : Try.prog.recurses 5 = true := by kernel_rfl
theorem hole_varsNamed : Try.prog.varsNamed 5 = [] := by kernel_rfl
theorem hole_facts : joinedFacts Try.prog 5 Try.f5 Rows.visibilityHoleSpec Rows.visibilityHoleRow = true := by
  unfold joinedFacts
  rw [hole_inPlace, hole_unfollowed, hole_recurses, hole_varsNamed]
  kernel_rfl

theorem hole_over : Rows.visibilityHoleRow.holds Try.pinned (OpenSpec.ofChange Rows.visibilityHoleSpec) :=
  OpenClaim.holds_of_wide 5 Try.f5 rfl rfl rfl rfl rfl rfl rfl ⟨rfl, rfl, rfl, rfl, rfl⟩ rfl rfl rfl rfl rfl (by kernel_rfl) Try.func5 hole_facts
    (of_decide_eq_true (by kernel_rfl)) (by unfold Func.isWrapper; first | (rw [if_pos (by decide +kernel)]; kernel_rfl) | (rw [if_neg (by decide +kernel)]; exact ⟨rfl, rfl⟩))
    (fun os started H enc _ => hole_lifted os started H enc)

/-- The statement. -/
theorem visibilityHole_proved : Rows.VisibilityHoleSaid :=
  hole_over
#print axioms visibilityHole_proved
end Go.Proofs.Ytfemaeacmnhdlaa
