/- VisibilityNext returns true for every input and leaves what was there unchanged. No condition. -/
import Derived.Test.YtfemaeacmnhdlaaRows
import Derived.Test.YtfemaeacmnhdlaaVZb
import Derived.WalkKit
import Derived.ProofKit
import Derived.OpenShut
import Derived.ShutString
import Derived.Below
import Derived.Carry
import Derived.Deep.Slices
namespace Go.Proofs.Ytfemaeacmnhdlaa
open Go.ChangeShapes Go.WideShapes Go.ChangeAt Go.RowKit Go.Deep
open Go.ChangeMaps (open_string shut_string)
set_option linter.unusedVariables false

theorem next_laid : laidOutB Try.prog = true := by kernel_rfl
theorem next_own : ownKnob Try.prog.godebug = none := by kernel_rfl

set_option maxRecDepth 100000 in
theorem next_lifted (os : Os) (started : os.Started) (H : Type) (enc : TypeId × Value → H) :
    ReturnsInHanded {} Try.checked os 15 .any (Rows.visibilityNextSpec.pre6 enc Try.prog Try.f15 Rows.visibilityNextRow.domain false) (Rows.visibilityNextSpec.post enc Try.prog Try.f15 false true false false) := by
  refine returnsInHanded_of_change (C := Try.checked) next_own started (by kernel_rfl) Try.func15
    (ChangeSpec.witness6 (enc := enc) (C := Try.checked) false ⟨#[], #[.slice none 0 0, .slice none 0 0, .int .i64 0], []⟩ 8 (by kernel_rfl) (by kernel_rfl) (by kernel_rfl) (by kernel_rfl)) ?_
  intro W base args ds gs before hval0 hW hcnd _
  have hval : ∀ (j : Nat) t v, Try.f15.params[j]? = some t → args[j]? = some v → Value.okWide Try.prog W .any base t v := hval0
  have hW' := hW
  obtain ⟨p, q, hA0, hV, rfl, hfz, hnd⟩ := hW
  have hA : DataW.TrodAll enc Try.prog W 0 (fun _ => true) true Try.f15.params.toList args.toList ds p := hA0
  rw [Try.params15] at hA hval
  obtain ⟨v0, vs0, d0, ds0, p0, q0, hargs, rfl, rfl, h0, r0⟩ := trodAll_cons hA
  obtain ⟨v1, vs1, d1, ds1, p1, q1, rfl, rfl, rfl, h1, r1⟩ := trodAll_cons r0
  obtain ⟨v2, vs2, d2, ds2, p2, q2, rfl, rfl, rfl, h2, r2⟩ := trodAll_cons r1
  obtain ⟨rfl, rfl, rfl⟩ := trodAll_nil r2
  obtain rfl : args = #[v0, v1, v2] := by cases args; simp_all
  obtain ⟨rfl, rfl⟩ := trodVars_none hV
  have k0 := h0
  have lt0 : ∀ x ∈ p0, x.block < W.heap.size := by obtain ⟨m, hm⟩ := k0; exact DataW.trod_lt m _ _ _ hm
  obtain ⟨fu0, hfu0⟩ := h0
  obtain ⟨a0, cap0, l0, hv0, hc0, hm0, ho0, hr0⟩ := rows_of hfu0
  obtain rfl := cells_slice hv0 (okWide_slice Try.underlying22 (hval 0 22 v0 rfl rfl))
  have k1 := h1
  have lt1 : ∀ x ∈ p1, x.block < W.heap.size := by obtain ⟨m, hm⟩ := k1; exact DataW.trod_lt m _ _ _ hm
  obtain ⟨fu1, hfu1⟩ := h1
  obtain ⟨a1, cap1, l1, hv1, hc1, hm1, ho1⟩ := ids_of hfu1
  obtain rfl := cells_slice hv1 (okWide_slice Try.underlying23 (hval 1 23 v1 rfl rfl))
  obtain ⟨n2, rfl, rfl, rfl, w2⟩ := open_int Try.underlying3 (hval 2 3 v2 rfl rfl) h2
  clear hA0 hval0
  refine (next_walk W a0 cap0 l0 a1 cap1 l1 n2 (Nat.le_trans hc0 hm0) hc0 ho0 hr0 ho1).mono fun e W' ⟨he, bel0⟩ => ?_
  have bel := bel0.to_new
  subst he
  exact ⟨_, rfl, _, _, _, [], _, [], hW', trodAll_mk1 (shut_bool Try.underlying4 _), (trodAll_cons_mk (Below.trod next_laid (by kernel_rfl) (of_decide_eq_true (by kernel_rfl)) k0 bel lt0) (trodAll_cons_mk (Below.trod next_laid (by kernel_rfl) (of_decide_eq_true (by kernel_rfl)) k1 bel lt1) (trodAll_cons_mk (shut_int Try.underlying3 w2) trodAll_mk0))), rfl, bel.frame _, fun h => by cases h⟩

theorem next_inPlace : Try.prog.inPlace 15 = ["internal/bytealg.Compare"] := by kernel_rfl
theorem next_unfollowed : Try.prog.unfollowed 15 = true := by kernel_rfl
theorem next_recurses : Try.prog.recurses 15 = true := by kernel_rfl
theorem next_varsNamed : Try.prog.varsNamed 15 = [] := by kernel_rfl
theorem next_facts : joinedFacts Try.prog 15 Try.f15 Rows.visibilityNextSpec Rows.visibilityNextRow = true := by
  unfold joinedFacts
  rw [next_inPlace, next_unfollowed, next_recurses, next_varsNamed]
  kernel_rfl

theorem next_over : Rows.visibilityNextRow.holds Try.pinned (OpenSpec.ofChange Rows.visibilityNextSpec) :=
  OpenClaim.holds_of_wide 15 Try.f15 rfl rfl rfl rfl rfl rfl rfl ⟨rfl, rfl, rfl, rfl, rfl⟩ rfl rfl rfl rfl rfl (by kernel_rfl) Try.func15 next_facts
    (of_decide_eq_true (by kernel_rfl)) (by unfold Func.isWrapper; first | (rw [if_pos (by decide +kernel)]; kernel_rfl) | (rw [if_neg (by decide +kernel)]; exact ⟨rfl, rfl⟩))
    (fun os started H enc _ => next_lifted os started H enc)

/-- The statement. -/
theorem visibilityNext_proved : Rows.VisibilityNextSaid :=
  next_over
#print axioms visibilityNext_proved
end Go.Proofs.Ytfemaeacmnhdlaa
