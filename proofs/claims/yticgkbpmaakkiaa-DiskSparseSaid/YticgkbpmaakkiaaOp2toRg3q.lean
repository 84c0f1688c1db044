/-
  More operations' runs. Program-free.
  A region that draws its order: an operation that yields the same in every world is taken as soon as it may come up. Program-free.
  A region that draws its order in a function whose end asks for the frame where it panics (a function that holds a range over a function): the region does not panic. Program-free.
-/
import Derived.Test.YticgkbpmaakkiaaRegq
import Derived.DeepKeys2
import Derived.ChangeKeysEq

namespace Go.Proofs.Yticgkbpmaakkiaa
open Go.RowKit

section
variable {P : Program} {a : Act} {w w' : World} {o : Oper}
theorem r_convert {s d : TypeId} {x : Operand} (ho : o.op = .convert s d x) {u v : Value} (hx : a.eval x = u) (hr : (convert s d u).run P w = .ok v w') : RunV P o a w v w' := by
  unfold RunV execOp
  simp only [ho, hx, Sem.run_bind, hr, Result.andThen_ok, Sem.run_pure]
theorem r_makeSlice {t : TypeId} {x y : Operand} (ho : o.op = .makeSlice t x y) {u1 u2 v : Value} (hx : a.eval x = u1) (hy : a.eval y = u2) (hr : (Instr.makeSlice t u1 u2).run P w = .ok v w') : RunV P o a w v w' := by
  unfold RunV execOp
  simp only [ho, hx, hy, Sem.run_bind, hr, Result.andThen_ok, Sem.run_pure]
theorem r_pick {c x y : Operand} {b : Bool} (ho : o.op = .pick c x y) {v : Value} (hc : a.eval c = .bool b) (hv : (if b then a.eval x else a.eval y) = v) : RunV P o a w v w := by
  unfold RunV execOp
  simp only [ho, hc, asBool, Sem.run_bind, Sem.run_pure, Result.andThen_ok]
  rw [← hv]
theorem r_strNeq {t ty : TypeId} {x y : Operand} {l1 l2 : List UInt8} (ho : o.op = .binOp .neq t x y ty) (ht : P.underlying t = some .string) (hx : a.eval x = .string ⟨l1.toArray⟩) (hy : a.eval y = .string ⟨l2.toArray⟩) : RunV P o a w (.bool (!decide (l1 = l2))) w := by
  unfold RunV execOp
  simp only [ho, hx, hy]
  go_simp
  by_cases h : l1 = l2 <;> simp [h]
theorem r_strEql {t ty : TypeId} {x y : Operand} {l1 l2 : List UInt8} (ho : o.op = .binOp .eql t x y ty) (ht : P.underlying t = some .string) (hx : a.eval x = .string ⟨l1.toArray⟩) (hy : a.eval y = .string ⟨l2.toArray⟩) : RunV P o a w (.bool (decide (l1 = l2))) w := by
  unfold RunV execOp
  simp only [ho, hx, hy]
  go_simp
  by_cases h : l1 = l2 <;> simp [h]
theorem r_strNeq_same {t ty : TypeId} {x y : Operand} {l : List UInt8} (ho : o.op = .binOp .neq t x y ty) (ht : P.underlying t = some .string) (hx : a.eval x = .string ⟨l.toArray⟩) (hy : a.eval y = .string ⟨l.toArray⟩) : RunV P o a w (.bool false) w := by
  have h := r_strNeq (w := w) ho ht hx hy
  rwa [decide_eq_true rfl] at h
end
end Go.Proofs.Yticgkbpmaakkiaa

namespace Go.Proofs.Yticgkbpmaakkiaa
open Go.RowKit

section
variable {P : Program} {md : Region.Mode} {ops : Array Oper} {Q : Exit → Act → World → Prop} {S : World → Prop} {c : Nat}

/-- An operation under a guard that says yes, in a plain region. -/
theorem wlg {rest : List Oper} {o : Oper} {v : Value} {a : Act} {w w' : World} (hg : Region.wanted o (yielded ops a.tmps) = true) (hr : RunV P o a w v w') (h : wpList P ops Q rest (a.put o.dst v) w') : wpList P ops Q (o :: rest) a w := by
  refine wpList_step fun K hK => ?_
  rw [if_pos hg]
  unfold Oper.wp
  rw [hr]; exact hK _ _ h
theorem wpAnyC_pure {i : Nat} {oi : Oper} {v : Value} (hi : ops[i]? = some oi) (hne : c ≠ i)
    (hsel : ∀ (j : Nat) (o : Oper) cs b, ops[j]? = some o → o.op ≠ .select cs b) (hQ : ∀ c a w, Q (.panic c) (a.put oi.dst v) w → Q (.panic c) a w) :
    ∀ (fuel : Nat) (listed : Array Bool) (a : Act) (w : World),
      (∀ j oj, ops[j]? = some oj → j ≠ i → listed.getD j true = false → (∀ e ∈ oj.after, Region.binds md e = true → e.on ≠ i) → oi.apart ops oj = true) →
      i ∈ Region.ready md ops listed → (listed.getD c true = false → S w) → YieldsIf P ops (fun _ => True) oi v a →
      wpAnyC P md ops Q S c fuel (listed.setIfInBounds i true) (a.put oi.dst v) w → wpAnyC P md ops Q S c (fuel + 1) listed a w := by
  intro fuel
  induction fuel with
  | zero =>
    intro listed a w _ hr hS hy H
    refine ⟨fun h => (by rw [h] at hr; cases hr), fun j hj => ?_⟩
    by_cases hji : j = i
    · subst hji; exact hy.wpOp hi trivial ⟨fun hl => hS (by rwa [getD_set_ne true (Ne.symm hne)] at hl), H⟩
    · exact absurd (ready_mono hj hji) (by rw [H.1]; simp)
  | succ fuel ih =>
    intro listed a w hfree hr hS hy H
    refine ⟨fun h => (by rw [h] at hr; cases hr), fun j hj => ?_⟩
    by_cases hji : j = i
    · subst hji; exact hy.wpOp hi trivial ⟨fun hl => hS (by rwa [getD_set_ne true (Ne.symm hne)] at hl), H⟩
    · have h1 := H.2 j (ready_mono hj hji)
      obtain ⟨hjun, oj, hoj, hall⟩ := mem_ready.1 hj
      have hiun : listed.getD i false = false := getD_both (mem_ready.1 hr).1
      have hnot : ∀ e ∈ oj.after, Region.binds md e = true → e.on ≠ i := fun e he hb heq => by
        have := hall e he hb
        rw [heq, hiun] at this
        cases this
      have h2 := wpOp_putIf hoj (hfree j oj hoj hji hjun hnot) (fun cs b => hsel i oi cs b hi) (fun cs b => hsel j oj cs b hoj) hQ hy h1
      have hfree' : ∀ k ok, ops[k]? = some ok → k ≠ i → (listed.setIfInBounds j true).getD k true = false →
          (∀ e ∈ ok.after, Region.binds md e = true → e.on ≠ i) → oi.apart ops ok = true := fun k ok hk hki hun hno => by
        refine hfree k ok hk hki ?_ hno
        by_cases hjk : j = k
        · subst hjk; exact hjun
        · rw [getD_set_ne true hjk] at hun; exact hun
      refine wpOp_mono (fun a' w' h3 => ?_) h2
      have hsw : (listed.setIfInBounds j true).getD c true = false → S w' := fun hl => h3.2.1 (by
        rw [← Array.setIfInBounds_comm _ _ hji, getD_set_ne true (Ne.symm hne)]; exact hl)
      refine ⟨hsw, ih (listed.setIfInBounds j true) a' w' hfree' (ready_mono hr (Ne.symm hji)) hsw h3.1 ?_⟩
      rw [Array.setIfInBounds_comm _ _ hji]
      exact h3.2.2

def takePure (md : Region.Mode) (ops : Array Oper) (listed : Array Bool) (c i : Nat) : Bool :=
  Region.noSelect ops && Region.free md ops listed i && (Region.ready md ops listed).contains i && (c != i)

/-- Take operation i: it yields v whatever the world. -/
theorem tp {i : Nat} {oi : Oper} {v : Value} {fuel : Nat} {listed : Array Bool} {a : Act} {w : World} (hi0 : ops.toList[i]? = some oi) (hok : takePure md ops listed c i = true)
    (hQ : ∀ c a w, Q (.panic c) (a.put oi.dst v) w → Q (.panic c) a w) (hg : oi.guard = none)
    (hr : ∀ w, RunV P oi a w v w) (hS : listed.getD c true = true ∨ S w)
    (h : wpAnyC P md ops Q S c fuel (listed.setIfInBounds i true) (a.put oi.dst v) w) : wpAnyC P md ops Q S c (fuel + 1) listed a w := by
  have hi : ops[i]? = some oi := by simpa using hi0
  simp only [takePure, Bool.and_eq_true, bne_iff_ne, ne_eq] at hok
  obtain ⟨⟨⟨h1, h2⟩, h3⟩, h6⟩ := hok
  exact wpAnyC_pure hi h6 (Region.noSelect_spec h1) hQ fuel listed a w (Region.free_spec hi h2) (by simpa using h3) (fun hl => hS.resolve_left (by rw [hl]; simp)) (.inl ⟨by simp [Region.wanted, hg], fun w _ => hr w⟩) h
/-- The same under a guard that says yes. -/
theorem tpg {i : Nat} {oi : Oper} {v : Value} {fuel : Nat} {listed : Array Bool} {a : Act} {w : World} (hi0 : ops.toList[i]? = some oi) (hok : takePure md ops listed c i = true)
    (hQ : ∀ c a w, Q (.panic c) (a.put oi.dst v) w → Q (.panic c) a w) (hg : Region.wanted oi (yielded ops a.tmps) = true)
    (hr : ∀ w, RunV P oi a w v w) (hS : listed.getD c true = true ∨ S w)
    (h : wpAnyC P md ops Q S c fuel (listed.setIfInBounds i true) (a.put oi.dst v) w) : wpAnyC P md ops Q S c (fuel + 1) listed a w := by
  have hi : ops[i]? = some oi := by simpa using hi0
  simp only [takePure, Bool.and_eq_true, bne_iff_ne, ne_eq] at hok
  obtain ⟨⟨⟨h1, h2⟩, h3⟩, h6⟩ := hok
  exact wpAnyC_pure hi h6 (Region.noSelect_spec h1) hQ fuel listed a w (Region.free_spec hi h2) (by simpa using h3) (fun hl => hS.resolve_left (by rw [hl]; simp)) (.inl ⟨hg, fun w _ => hr w⟩) h
/-- An operation that is passed over. -/
theorem tpn {i : Nat} {oi : Oper} {fuel : Nat} {listed : Array Bool} {a : Act} {w : World} (hi0 : ops.toList[i]? = some oi) (hok : takePure md ops listed c i = true)
    (hQ : ∀ c a w, Q (.panic c) (a.put oi.dst undef) w → Q (.panic c) a w) (hg : Region.wanted oi (yielded ops a.tmps) = false) (hS : listed.getD c true = true ∨ S w)
    (h : wpAnyC P md ops Q S c fuel (listed.setIfInBounds i true) (a.put oi.dst undef) w) : wpAnyC P md ops Q S c (fuel + 1) listed a w := by
  have hi : ops[i]? = some oi := by simpa using hi0
  simp only [takePure, Bool.and_eq_true, bne_iff_ne, ne_eq] at hok
  obtain ⟨⟨⟨h1, h2⟩, h3⟩, h6⟩ := hok
  exact wpAnyC_pure hi h6 (Region.noSelect_spec h1) hQ fuel listed a w (Region.free_spec hi h2) (by simpa using h3) (fun hl => hS.resolve_left (by rw [hl]; simp)) (.inr ⟨hg, rfl⟩) h
/-- The only one that may come up comes up; nothing more is asked of S. -/
theorem oc4 {i : Nat} {o : Oper} {fuel : Nat} {listed : Array Bool} {a : Act} {w : World} (hi0 : ops.toList[i]? = some o) (hr : Region.ready md ops listed = [i]) (hg : o.guard = none) (hc : (listed.setIfInBounds i true).getD c true = true)
    (h : o.wp P a w (fun a' w' => wpAnyC P md ops Q S c fuel (listed.setIfInBounds i true) a' w') Q) : wpAnyC P md ops Q S c (fuel + 1) listed a w :=
  oc1 hi0 hr hg (Oper.wp_mono (fun _ _ h' => ⟨(fun hf => by rw [hc] at hf; cases hf), h'⟩) h)
/-- Two may come up. -/
theorem two {i j : Nat} {oi oj : Oper} {fuel : Nat} {listed : Array Bool} {a : Act} {w : World} (hi0 : ops.toList[i]? = some oi) (hj0 : ops.toList[j]? = some oj) (hr : Region.ready md ops listed = [i, j]) (hgi : oi.guard = none) (hgj : oj.guard = none)
    (h1 : oi.wp P a w (fun a' w' => ((listed.setIfInBounds i true).getD c true = false → S w') ∧ wpAnyC P md ops Q S c fuel (listed.setIfInBounds i true) a' w') Q)
    (h2 : oj.wp P a w (fun a' w' => ((listed.setIfInBounds j true).getD c true = false → S w') ∧ wpAnyC P md ops Q S c fuel (listed.setIfInBounds j true) a' w') Q) : wpAnyC P md ops Q S c (fuel + 1) listed a w := by
  have hi : ops[i]? = some oi := by simpa using hi0
  have hj : ops[j]? = some oj := by simpa using hj0
  refine ⟨fun h0 => absurd (hr ▸ h0) (by simp), hr ▸ ?_⟩
  intro k hk
  unfold wpOp
  rcases List.mem_cons.1 hk with rfl | hk
  · simp only [hi, Region.wanted, hgi, if_true]
    exact .inl h1
  · obtain rfl : k = j := by simpa using hk
    simp only [hj, Region.wanted, hgj, if_true]
    exact .inl h2
end
end Go.Proofs.Yticgkbpmaakkiaa

namespace Go.Proofs.Yticgkbpmaakkiaa
open Go.RowKit

def NoPanic (Q : Exit → Act → World → Prop) : Exit → Act → World → Prop := fun e a w => match e with
  | .panic _ => False
  | e => Q e a w
theorem noPanic_of {Q : Exit → Act → World → Prop} (e : Exit) (a : Act) (w : World) (h : NoPanic Q e a w) : Q e a w := by
  cases e <;> first | exact h | exact h.elim
section
variable {P : Program} {md : Region.Mode} {ops : Array Oper} {Q : Exit → Act → World → Prop} {S : World → Prop} {c : Nat}
theorem rcn {id : Nat} {a : Act} {w : World} (S : World → Prop) (c : Nat) (hm : P.follows .mixedOrders = true)
    (h : wpAnyC P .any ops (NoPanic Q) S c ops.size (Array.replicate ops.size false) a w.drew) : (Code.region id ops true).wp P Q a w :=
  Code.wp_mono noPanic_of (rc S c hm h)
theorem dcn {fuel : Nat} {listed : Array Bool} {a : Act} {w : World} (hr : Region.ready md ops listed = []) (h : Q .normal a w) : wpAnyC P md ops (NoPanic Q) S c fuel listed a w := dc hr h
end
end Go.Proofs.Yticgkbpmaakkiaa
