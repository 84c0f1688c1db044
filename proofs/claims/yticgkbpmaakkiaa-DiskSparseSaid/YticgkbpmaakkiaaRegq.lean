/-
  A region that draws its order, in which reads stand beside writes: a condition on memory is held only till operation c has come up, for which all the reads are waited. Program-free.
-/
import Derived.Test.YticgkbpmaakkiaaOpsq
import Derived.OrdersHeld
namespace Go.Proofs.Yticgkbpmaakkiaa
open Go.RowKit

section
variable {P : Program} {md : Region.Mode} {ops : Array Oper} {Q : Exit → Act → World → Prop} {S : World → Prop} {c : Nat}

/-- Every order, S being shown anew behind each operation till c is listed. -/
def wpAnyC (P : Program) (md : Region.Mode) (ops : Array Oper) (Q : Exit → Act → World → Prop) (S : World → Prop) (c : Nat) : Nat → Array Bool → Act → World → Prop
  | 0, listed, a, w => Region.ready md ops listed = [] ∧ Q .normal a w
  | fuel + 1, listed, a, w =>
    (Region.ready md ops listed = [] → Q .normal a w) ∧
    ∀ i ∈ Region.ready md ops listed, wpOp P ops Q i (fun a' w' => ((listed.setIfInBounds i true).getD c true = false → S w') ∧ wpAnyC P md ops Q S c fuel (listed.setIfInBounds i true) a' w') a w

theorem wpAny_of_C : ∀ (fuel : Nat) (listed : Array Bool) (a : Act) (w : World), wpAnyC P md ops Q S c fuel listed a w → wpAny P md ops Q fuel listed a w
  | 0, _, _, _, h => h
  | fuel + 1, _, _, _, h => ⟨h.1, fun i hi => wpOp_mono (fun a' w' h' => wpAny_of_C fuel _ a' w' h'.2) (h.2 i hi)⟩

/-- j waits for i, at once or through others. -/
def waitsB (md : Region.Mode) (ops : Array Oper) : Nat → Nat → Nat → Bool
  | 0, _, _ => false
  | n + 1, j, i => match ops[j]? with
    | some oj => oj.after.any fun e => Region.binds md e && (e.on == i || waitsB md ops n e.on i)
    | none => false

/-- What is listed has all that it waits for listed. -/
def Closed (md : Region.Mode) (ops : Array Oper) (listed : Array Bool) : Prop := ∀ j oj, ops[j]? = some oj → listed.getD j false = true → ∀ e ∈ oj.after, Region.binds md e = true → listed.getD e.on false = true
def closedB (md : Region.Mode) (ops : Array Oper) (listed : Array Bool) : Bool := (List.range ops.size).all fun j => !listed.getD j false || match ops[j]? with
  | some oj => oj.after.all fun e => !Region.binds md e || listed.getD e.on false
  | none => true
theorem closed_of {listed : Array Bool} (h : closedB md ops listed = true) : Closed md ops listed := by
  intro j oj hj hl e he hb
  have hlt := (Array.getElem?_eq_some_iff.1 hj).1
  simp only [closedB, List.all_eq_true, List.mem_range] at h
  have := h j hlt
  simp only [hl, hj, Bool.not_true, Bool.false_or] at this
  have := Array.all_eq_true_iff_forall_mem.1 this e he
  simpa [hb] using this
theorem Closed.set {listed : Array Bool} (h : Closed md ops listed) {i : Nat} (hi : i ∈ Region.ready md ops listed) : Closed md ops (listed.setIfInBounds i true) := by
  intro j oj hj hl e he hb
  by_cases hij : i = j
  · subst hij
    obtain ⟨_, oi, hoi, hall⟩ := mem_ready.1 hi
    obtain rfl : oj = oi := Option.some.inj (hj.symm.trans hoi)
    exact getD_set_true (hall e he hb)
  · rw [getD_set_ne false hij] at hl
    exact getD_set_true (h j oj hj hl e he hb)
theorem waits_listed {listed : Array Bool} (h : Closed md ops listed) {i : Nat} : ∀ (n j : Nat), waitsB md ops n j i = true → (listed.getD j false = true ∨ j ∈ Region.ready md ops listed) → listed.getD i false = true
  | 0, _, hw, _ => by cases hw
  | n + 1, j, hw, hj => by
    unfold waitsB at hw
    split at hw
    · rename_i oj hoj
      obtain ⟨e, he, hh⟩ := Array.any_eq_true'.1 hw
      simp only [Bool.and_eq_true, Bool.or_eq_true, beq_iff_eq] at hh
      have hl : listed.getD e.on false = true := by
        rcases hj with hj | hj
        · exact h j oj hoj hj e he hh.1
        · obtain ⟨_, o2, ho2, hall⟩ := mem_ready.1 hj
          obtain rfl : oj = o2 := Option.some.inj (hoj.symm.trans ho2)
          exact hall e he hh.1
      rcases hh.2 with hh2 | hh2
      · rw [← hh2]; exact hl
      · exact waits_listed h n e.on hh2 (.inl hl)
    · cases hw

/-- i first: c waits for it, and till c comes it yields v. -/
theorem wpAnyC_first {i : Nat} {oi : Oper} {v : Value} (hi : ops[i]? = some oi) {N : Nat} (hci : waitsB md ops N c i = true) (hne : c ≠ i)
    (hsel : ∀ (j : Nat) (o : Oper) cs b, ops[j]? = some o → o.op ≠ .select cs b) (hQ : ∀ c a w, Q (.panic c) (a.put oi.dst v) w → Q (.panic c) a w) :
    ∀ (fuel : Nat) (listed : Array Bool) (a : Act) (w : World),
      (∀ j oj, ops[j]? = some oj → j ≠ i → listed.getD j true = false → (∀ e ∈ oj.after, Region.binds md e = true → e.on ≠ i) → oi.apart ops oj = true) →
      i ∈ Region.ready md ops listed → Closed md ops listed → listed.getD c true = false → YieldsIf P ops S oi v a → S w →
      wpAnyC P md ops Q S c fuel (listed.setIfInBounds i true) (a.put oi.dst v) w → wpAnyC P md ops Q S c (fuel + 1) listed a w := by
  intro fuel
  induction fuel with
  | zero =>
    intro listed a w _ hr _ hcl hy hS H
    refine ⟨fun h => (by rw [h] at hr; cases hr), fun j hj => ?_⟩
    by_cases hji : j = i
    · subst hji; exact hy.wpOp hi hS ⟨fun _ => hS, H⟩
    · exact absurd (ready_mono hj hji) (by rw [H.1]; simp)
  | succ fuel ih =>
    intro listed a w hfree hr hclo hcl hy hS H
    refine ⟨fun h => (by rw [h] at hr; cases hr), fun j hj => ?_⟩
    by_cases hji : j = i
    · subst hji; exact hy.wpOp hi hS ⟨fun _ => hS, H⟩
    · have h1 := H.2 j (ready_mono hj hji)
      obtain ⟨hjun, oj, hoj, hall⟩ := mem_ready.1 hj
      have hiun : listed.getD i false = false := getD_both (mem_ready.1 hr).1
      have hnot : ∀ e ∈ oj.after, Region.binds md e = true → e.on ≠ i := fun e he hb heq => by
        have := hall e he hb
        rw [heq, hiun] at this
        cases this
      have hjc : j ≠ c := by
        rintro rfl
        have := waits_listed hclo N j hci (.inr hj)
        rw [hiun] at this
        cases this
      have hcl2 : (listed.setIfInBounds j true).getD c true = false := by rw [getD_set_ne true hjc]; exact hcl
      have hcl3 : ((listed.setIfInBounds i true).setIfInBounds j true).getD c true = false := by rw [getD_set_ne true hjc, getD_set_ne true (Ne.symm hne)]; exact hcl
      have h2 := wpOp_putIf hoj (hfree j oj hoj hji hjun hnot) (fun cs b => hsel i oi cs b hi) (fun cs b => hsel j oj cs b hoj) hQ hy h1
      have hfree' : ∀ k ok, ops[k]? = some ok → k ≠ i → (listed.setIfInBounds j true).getD k true = false →
          (∀ e ∈ ok.after, Region.binds md e = true → e.on ≠ i) → oi.apart ops ok = true := fun k ok hk hki hun hno => by
        refine hfree k ok hk hki ?_ hno
        by_cases hjk : j = k
        · subst hjk; exact hjun
        · rw [getD_set_ne true hjk] at hun; exact hun
      refine wpOp_mono (fun a' w' h3 => ?_) h2
      have hS' := h3.2.1 hcl3
      refine ⟨fun _ => hS', ih (listed.setIfInBounds j true) a' w' hfree' (ready_mono hr (Ne.symm hji)) (hclo.set hj) hcl2 h3.1 hS' ?_⟩
      rw [Array.setIfInBounds_comm _ _ hji]
      exact h3.2.2

def takeOk (md : Region.Mode) (ops : Array Oper) (listed : Array Bool) (N c i : Nat) : Bool :=
  Region.noSelect ops && Region.free md ops listed i && (Region.ready md ops listed).contains i && !listed.getD c true && waitsB md ops N c i && (c != i) && closedB md ops listed

/-- Take operation i first; its guard, if any, says yes. -/
theorem tc {i : Nat} {oi : Oper} {v : Value} {fuel : Nat} {listed : Array Bool} {a : Act} {w : World} (hi0 : ops.toList[i]? = some oi) (N : Nat := 8) (hok : takeOk md ops listed N c i = true)
    (hQ : ∀ c a w, Q (.panic c) (a.put oi.dst v) w → Q (.panic c) a w) (hg : oi.guard = none)
    (hr : ∀ w, S w → RunV P oi a w v w) (hS : S w)
    (h : wpAnyC P md ops Q S c fuel (listed.setIfInBounds i true) (a.put oi.dst v) w) : wpAnyC P md ops Q S c (fuel + 1) listed a w := by
  have hi : ops[i]? = some oi := by simpa using hi0
  simp only [takeOk, Bool.and_eq_true, Bool.not_eq_true', bne_iff_ne, ne_eq] at hok
  obtain ⟨⟨⟨⟨⟨⟨h1, h2⟩, h3⟩, h4⟩, h5⟩, h6⟩, h7⟩ := hok
  exact wpAnyC_first hi h5 h6 (Region.noSelect_spec h1) hQ fuel listed a w (Region.free_spec hi h2) (by simpa using h3) (closed_of h7) h4 (.inl ⟨by simp [Region.wanted, hg], hr⟩) hS h

/-- The same for an operation under a guard. -/
theorem tcg {i : Nat} {oi : Oper} {v : Value} {fuel : Nat} {listed : Array Bool} {a : Act} {w : World} (hi0 : ops.toList[i]? = some oi) (N : Nat := 8) (hok : takeOk md ops listed N c i = true)
    (hQ : ∀ c a w, Q (.panic c) (a.put oi.dst v) w → Q (.panic c) a w) (hg : Region.wanted oi (yielded ops a.tmps) = true)
    (hr : ∀ w, S w → RunV P oi a w v w) (hS : S w)
    (h : wpAnyC P md ops Q S c fuel (listed.setIfInBounds i true) (a.put oi.dst v) w) : wpAnyC P md ops Q S c (fuel + 1) listed a w := by
  have hi : ops[i]? = some oi := by simpa using hi0
  simp only [takeOk, Bool.and_eq_true, Bool.not_eq_true', bne_iff_ne, ne_eq] at hok
  obtain ⟨⟨⟨⟨⟨⟨h1, h2⟩, h3⟩, h4⟩, h5⟩, h6⟩, h7⟩ := hok
  exact wpAnyC_first hi h5 h6 (Region.noSelect_spec h1) hQ fuel listed a w (Region.free_spec hi h2) (by simpa using h3) (closed_of h7) h4 (.inl ⟨hg, hr⟩) hS h

/-- An operation that is passed over. -/
theorem tcn {i : Nat} {oi : Oper} {fuel : Nat} {listed : Array Bool} {a : Act} {w : World} (hi0 : ops.toList[i]? = some oi) (N : Nat := 8) (hok : takeOk md ops listed N c i = true)
    (hQ : ∀ c a w, Q (.panic c) (a.put oi.dst undef) w → Q (.panic c) a w) (hg : Region.wanted oi (yielded ops a.tmps) = false) (hS : S w)
    (h : wpAnyC P md ops Q S c fuel (listed.setIfInBounds i true) (a.put oi.dst undef) w) : wpAnyC P md ops Q S c (fuel + 1) listed a w := by
  have hi : ops[i]? = some oi := by simpa using hi0
  simp only [takeOk, Bool.and_eq_true, Bool.not_eq_true', bne_iff_ne, ne_eq] at hok
  obtain ⟨⟨⟨⟨⟨⟨h1, h2⟩, h3⟩, h4⟩, h5⟩, h6⟩, h7⟩ := hok
  exact wpAnyC_first hi h5 h6 (Region.noSelect_spec h1) hQ fuel listed a w (Region.free_spec hi h2) (by simpa using h3) (closed_of h7) h4 (.inr ⟨hg, rfl⟩) hS h

/-- The only one that may come up comes up, S being shown anew (where c is not listed yet). -/
theorem oc1 {i : Nat} {o : Oper} {fuel : Nat} {listed : Array Bool} {a : Act} {w : World} (hi0 : ops.toList[i]? = some o) (hr : Region.ready md ops listed = [i]) (hg : o.guard = none)
    (h : o.wp P a w (fun a' w' => ((listed.setIfInBounds i true).getD c true = false → S w') ∧ wpAnyC P md ops Q S c fuel (listed.setIfInBounds i true) a' w') Q) : wpAnyC P md ops Q S c (fuel + 1) listed a w := by
  have hi : ops[i]? = some o := by simpa using hi0
  refine ⟨fun h0 => absurd (hr ▸ h0) (by simp), hr ▸ ?_⟩
  intro j hj
  obtain rfl : j = i := by simpa using hj
  unfold wpOp
  simp only [hi, Region.wanted, hg, if_true]
  exact .inl h

/-- .. where c has come up or comes up: nothing more is asked of S. -/
theorem oc2 {i : Nat} {o : Oper} {fuel : Nat} {listed : Array Bool} {a : Act} {w w' : World} {v : Value} (hi0 : ops.toList[i]? = some o) (hr : Region.ready md ops listed = [i]) (hg : o.guard = none)
    (hc : (listed.setIfInBounds i true).getD c true = true) (hrun : RunV P o a w v w') (h : wpAnyC P md ops Q S c fuel (listed.setIfInBounds i true) (a.put o.dst v) w') : wpAnyC P md ops Q S c (fuel + 1) listed a w :=
  oc1 hi0 hr hg (wp_of_runV hrun ⟨(fun hf => by rw [hc] at hf; cases hf), h⟩)
theorem oc3 {i : Nat} {o : Oper} {fuel : Nat} {listed : Array Bool} {a : Act} {w w' : World} {v : Value} (hi0 : ops.toList[i]? = some o) (hr : Region.ready md ops listed = [i]) (hg : o.guard = none)
    (hS : S w') (hrun : RunV P o a w v w') (h : wpAnyC P md ops Q S c fuel (listed.setIfInBounds i true) (a.put o.dst v) w') : wpAnyC P md ops Q S c (fuel + 1) listed a w :=
  oc1 hi0 hr hg (wp_of_runV hrun ⟨fun _ => hS, h⟩)

theorem oc2u {i : Nat} {o : Oper} {fuel : Nat} {listed : Array Bool} {a : Act} {w w' : World} (hi0 : ops.toList[i]? = some o) (hr : Region.ready md ops listed = [i]) (hg : o.guard = none)
    (hc : (listed.setIfInBounds i true).getD c true = true) (hrun : RunU P o a w w') (h : wpAnyC P md ops Q S c fuel (listed.setIfInBounds i true) (a.put o.dst undef) w') : wpAnyC P md ops Q S c (fuel + 1) listed a w :=
  oc1 hi0 hr hg (wp_of_runU hrun ⟨(fun hf => by rw [hc] at hf; cases hf), h⟩)
theorem oc3u {i : Nat} {o : Oper} {fuel : Nat} {listed : Array Bool} {a : Act} {w w' : World} (hi0 : ops.toList[i]? = some o) (hr : Region.ready md ops listed = [i]) (hg : o.guard = none)
    (hS : S w') (hrun : RunU P o a w w') (h : wpAnyC P md ops Q S c fuel (listed.setIfInBounds i true) (a.put o.dst undef) w') : wpAnyC P md ops Q S c (fuel + 1) listed a w :=
  oc1 hi0 hr hg (wp_of_runU hrun ⟨fun _ => hS, h⟩)

/-! the same for operations under a guard -/
theorem og1 {i : Nat} {o : Oper} {fuel : Nat} {listed : Array Bool} {a : Act} {w : World} (hi0 : ops.toList[i]? = some o) (hr : Region.ready md ops listed = [i]) (hg : Region.wanted o (yielded ops a.tmps) = true)
    (h : o.wp P a w (fun a' w' => ((listed.setIfInBounds i true).getD c true = false → S w') ∧ wpAnyC P md ops Q S c fuel (listed.setIfInBounds i true) a' w') Q) : wpAnyC P md ops Q S c (fuel + 1) listed a w := by
  have hi : ops[i]? = some o := by simpa using hi0
  refine ⟨fun h0 => absurd (hr ▸ h0) (by simp), hr ▸ ?_⟩
  intro j hj
  obtain rfl : j = i := by simpa using hj
  unfold wpOp
  simp only [hi, hg, if_true]
  exact .inl h
theorem og2 {i : Nat} {o : Oper} {fuel : Nat} {listed : Array Bool} {a : Act} {w w' : World} {v : Value} (hi0 : ops.toList[i]? = some o) (hr : Region.ready md ops listed = [i]) (hg : Region.wanted o (yielded ops a.tmps) = true)
    (hc : (listed.setIfInBounds i true).getD c true = true) (hrun : RunV P o a w v w') (h : wpAnyC P md ops Q S c fuel (listed.setIfInBounds i true) (a.put o.dst v) w') : wpAnyC P md ops Q S c (fuel + 1) listed a w :=
  og1 hi0 hr hg (wp_of_runV hrun ⟨(fun hf => by rw [hc] at hf; cases hf), h⟩)
theorem og3 {i : Nat} {o : Oper} {fuel : Nat} {listed : Array Bool} {a : Act} {w w' : World} {v : Value} (hi0 : ops.toList[i]? = some o) (hr : Region.ready md ops listed = [i]) (hg : Region.wanted o (yielded ops a.tmps) = true)
    (hS : S w') (hrun : RunV P o a w v w') (h : wpAnyC P md ops Q S c fuel (listed.setIfInBounds i true) (a.put o.dst v) w') : wpAnyC P md ops Q S c (fuel + 1) listed a w :=
  og1 hi0 hr hg (wp_of_runV hrun ⟨fun _ => hS, h⟩)

theorem C_of_any : ∀ (fuel : Nat) (listed : Array Bool) (a : Act) (w : World), listed.getD c true = true → wpAny P md ops Q fuel listed a w → wpAnyC P md ops Q S c fuel listed a w
  | 0, _, _, _, _, h => h
  | fuel + 1, listed, _, _, hc, h => ⟨h.1, fun i hi => wpOp_mono (fun a' w' h' =>
      have hc' : (listed.setIfInBounds i true).getD c true = true := by
        rw [Array.getD_eq_getD_getElem?, Array.getElem?_setIfInBounds]
        split
        · split <;> rfl
        · rw [← Array.getD_eq_getD_getElem?]; exact hc
      ⟨(fun hf => by rw [hc'] at hf; cases hf), C_of_any fuel _ a' w' hc' h'⟩) (h.2 i hi)⟩
/-- c has come up: go on under another S and another c. -/
theorem sw {fuel : Nat} {listed : Array Bool} {a : Act} {w : World} (S' : World → Prop) (c' : Nat) (hc : listed.getD c true = true) (h : wpAnyC P md ops Q S' c' fuel listed a w) : wpAnyC P md ops Q S c fuel listed a w :=
  C_of_any fuel listed a w hc (wpAny_of_C fuel listed a w h)

theorem dc {fuel : Nat} {listed : Array Bool} {a : Act} {w : World} (hr : Region.ready md ops listed = []) (h : Q .normal a w) : wpAnyC P md ops Q S c fuel listed a w := by
  cases fuel with
  | zero => exact ⟨hr, h⟩
  | succ n => exact ⟨fun _ => h, by rw [hr]; simp⟩

/-- The beginning. -/
theorem rc {id : Nat} {a : Act} {w : World} (S : World → Prop) (c : Nat) (hm : P.follows .mixedOrders = true)
    (h : wpAnyC P .any ops Q S c ops.size (Array.replicate ops.size false) a w.drew) : (Code.region id ops true).wp P Q a w :=
  wp_region_any hm (wpAny_of_C _ _ _ _ h)

end
end Go.Proofs.Yticgkbpmaakkiaa
