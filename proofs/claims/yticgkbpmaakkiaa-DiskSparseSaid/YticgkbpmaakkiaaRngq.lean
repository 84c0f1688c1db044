/-
  Ranging over a function: the loop's law at the wide fence, for a caller that is walked in the plain way; laws on operations inside a round. Program-free.
-/
import Derived.Test.YticgkbpmaakkiaaLstq
import Derived.RangeFuncNested
import Derived.RangeFuncBound
import Derived.RangeFuncCalls
import Derived.RangeFuncLeaves
import Derived.Shelf.Abstract
import Derived.Shelf.RegionOpen
import Derived.OwnWalkIn
import Derived.TacticsInMore
import Derived.LoopNIn
import Derived.LoopIn
namespace Go.Proofs.Yticgkbpmaakkiaa
open Go.RowKit Go.Shelf

section
variable {P : Program}

/-! ### inside a fence -/
def plainOp : Op → Bool
  | .call _ | .defer _ | .go _ => false
  | _ => true

variable {F : Fence} {nF : Nat} {ops : Array Oper} {Q : Exit → Act → World → Prop} {a : Act} {w w' : World} {rest : List Oper} {o : Oper} {v : Value}

theorem about_plain (hp : plainOp o.op = true) : o.about P w a.eval = none := by
  unfold Oper.about
  cases ho : o.op <;> first | rfl | (rw [ho] at hp; cases hp)
theorem semAt_plainOp (hp : plainOp o.op = true) : o.semAt F.round a.eval = execOp a.eval o := Oper.semAt_plain F _ _ (fun c hc => by rw [hc] at hp; cases hp)

theorem wlIn (hg : o.guard = none) (hp : plainOp o.op = true) (hr : RunV P o a w v w') (h : wpListIn F nF P ops Q rest (a.put o.dst v) w') : wpListIn F nF P ops Q (o :: rest) a w := by
  refine wpListIn_plain hg fun K hK => ?_
  unfold Oper.wpIn
  rw [about_plain hp, semAt_plainOp hp, hr]
  exact ⟨fun _ hf => (by cases hf), hK _ _ h⟩
theorem wuIn (hg : o.guard = none) (hp : plainOp o.op = true) (hr : RunU P o a w w') (h : wpListIn F nF P ops Q rest (a.put o.dst undef) w') : wpListIn F nF P ops Q (o :: rest) a w := by
  refine wpListIn_plain hg fun K hK => ?_
  unfold Oper.wpIn
  rw [about_plain hp, semAt_plainOp hp, hr]
  exact ⟨fun _ hf => (by cases hf), hK _ _ h⟩

/-! ### what abides the law's book-keeping -/
theorem ownFrom_fr {β : Type} {w : World} {B : Nat} (hB : w.heap.size ≤ B) (S : β → Nat → Prop) : OwnFrom B (fun (s : β) W => Fr (S s) w W) := fun s W W' row hs hg hr =>
  hs.grown hg (fun k hk hlt => by have := (hr k hk).1; omega)
theorem ownFrom_true {β : Type} {B : Nat} (p : β → Prop) : OwnFrom B (fun (s : β) (_ : World) => p s) := fun _ _ _ _ hs _ _ => hs
/-- A block that holds cells. -/
theorem ownFrom_cells {β : Type} {B : Nat} (b : β → Nat) (cs : β → Array Value) (t : TypeId) : OwnFrom B (fun (s : β) W => W.heap[b s]? = some (.cells (cs s) t)) := fun s W W' row hs hg hr => by
  exact (hg.block _ (heap_lt hs) (fun e => by
    obtain ⟨_, o, ho, hn⟩ := hr _ e.symm
    have hs' : W.heap[b s]? = some (.cells (cs s) t) := hs
    rw [hs'] at ho; cases ho; cases hn)).trans hs
theorem keepsFrom_fr {B : Nat} {W W' : World} {S : Nat → Prop} (hf : Fr S W W') (hs : ∀ j, S j → j < B ∨ ∃ cs t fz, W.heap[j]? = some (.cells cs t fz)) : KeepsFrom B W W' := by
  refine ⟨hf.size, fun k o hB hk ho => hf.keep hk (fun hS => ?_)⟩
  rcases hs k hS with h | ⟨cs, t, fz, h⟩
  · omega
  · rw [hk] at h; cases h; cases ho

/-! ### the caller -/
theorem calls_marks {f : FuncId} {fn : Func} {c : Code} {args : Array Value} {w : World} {R : Ending → World → Prop} (hf : P.funcs[f]? = some fn) (hb : fn.body = some c)
    (h : c.wp P (bodyPostM Fence.wide 3 P fn R) { tmps := args ++ Array.replicate (fn.ntmps - args.size) undef, defers := [] } w) : Calls P f args w R :=
  (callsIn_wide (n := 3)).1 (callsIn_of_wp_marks (F := Fence.wide) (n := 3) hf hb trivial (wpIn_wide.2 h) rfl)

/-- The return out of a function that held one such loop. -/
theorem ret_mark {fn : Func} {R : Ending → World → Prop} {tmps : Array Value} {D : Nat} {W : World} {v : Value} (hK : W.heap[D]? = some (.deferred (some [])))
    (hres : (results fn tmps).run P (W.putObj D (.deferred none)) = .ok v (W.putObj D (.deferred none))) (hR : R (.returned v) (W.putObj D (.deferred none))) :
    bodyPostM Fence.wide 3 P fn R .ret { tmps := tmps, defers := [{ target := .collected D, args := #[] }] } W := by
  refine ⟨by simp, .inl ⟨_, _, rfl, run_takeDeferred hK, ?_⟩⟩
  exact ⟨_, hres, hR⟩

/-- The loop. -/
theorem wp_range {α : Type} {g : Operand} {ps : Array Tmp} {assign body : Code} {gf : Nat} {lb : Array Value} (hg : a.eval g = .func (.func gf) #[] lb)
    (eg : ∀ args w, (callFunc gf args).run P w = .ok (.enter gf args) w) {encs : α → Array Value} {S Sp : List α → Prop} {N : Nat} (hseq : SeqStopsK Fence.wide 2 P gf lb encs (Below w.heap.size) S Sp N w) (hps : ∀ x, (encs x).size = ps.size)
    (I : List α → World → Prop) (Ix : Code → List α → World → Prop) (hI : OwnFrom w.heap.size I) (hIx : ∀ c, OwnFrom w.heap.size (Ix c)) (h0 : I [] w) (Ax : α → Act → World → Prop) (hAx : ∀ x a', OwnFrom w.heap.size (fun (_ : Unit) W => Ax x a' W))
    (hassign : ∀ (l : Nat) (pre : List α) (x : α) (W : World) (K : Act → World → Prop), I pre W → (∀ a' W', KeepsFrom w.heap.size W W' → Below w.heap.size W W' → I pre W' → Ax x a' W' → K a' W') →
      assign.wpIn (Fence.wide.inRound l) 1 P (Exit.then K (fun _ _ _ => False)) { tmps := (ps.zip (encs x)).foldl (fun t (p, v) => t.setIfInBounds p v) a.tmps, defers := [] } W)
    (hbody : ∀ (l : Nat) (pre : List α) (x : α) (a' : Act) (W : World), w.heap.size ≤ l → (∃ r, W.heap[l]? = some (.loop r)) → I pre W → Ax x a' W → pre.length < N → body.wpIn (Fence.wide.inRound l) 1 P (ownPostG w.heap.size (Below w.heap.size) I Ix (pre ++ [x]) W) a' W)
    (hdone : ∀ (D : Nat) (xs : List α) (W : World), w.heap.size ≤ D → S xs → I xs W → W.heap[D]? = some (.deferred (some [])) → Q .normal { a with defers := { target := .collected D, args := #[] } :: a.defers } W)
    (hstop : ∀ (D : Nat) (c : Code) (pre : List α) (W : World), w.heap.size ≤ D → Sp pre → Ix c pre W → W.heap[D]? = some (.deferred (some [])) → c.wp P Q { a with defers := { target := .collected D, args := #[] } :: a.defers } W) :
    (Code.rangeFunc g ps assign body).wp P Q a w :=
  (wpIn_wide (n := 3)).1 (wpIn_rangeFunc_ownH (F := Fence.wide) (n := 3) rfl (by omega) hg trivial eg hseq belowK_t (belowK_b (Nat.le_refl _)) (Below.refl _ _) hps I Ix hI hIx h0 Ax hAx hassign hbody hdone
    (fun D c pre W hD hs hx hk => wpIn_wide.2 (hstop D c pre W hD hs hx hk)))
end
end Go.Proofs.Yticgkbpmaakkiaa
