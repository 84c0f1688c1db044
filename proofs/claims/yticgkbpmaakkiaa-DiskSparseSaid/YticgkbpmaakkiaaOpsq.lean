/-
  Laws for single operations on whole arrays and structs, on maps and appends: for a plain region ('wl_'), for the quiet head of a region that draws ('ws_'), and for a take under a condition ('yi_'). Program-free.
-/
import Derived.Test.YticgkbpmaakkiaaArrq
import Derived.WalkKit
import Derived.StillTailTactics
import Derived.OrdersHeld
import Derived.Deep.MidRow
import Derived.Deep.WholeRow
namespace Go.Proofs.Yticgkbpmaakkiaa
open Go.RowKit

section
variable {P : Program}

/-- Operation o in state a and world w yields v and leaves world w'. -/
abbrev RunV (P : Program) (o : Oper) (a : Act) (w : World) (v : Value) (w' : World) : Prop := (execOp a.eval o).run P w = .ok (.value v) w'
/-- .. it writes, and yields nothing. -/
abbrev RunU (P : Program) (o : Oper) (a : Act) (w w' : World) : Prop := (execOp a.eval o).run P w = .ok .skip w'

variable {ops : Array Oper} {Q : Exit → Act → World → Prop} {a : Act} {w w' : World} {rest : List Oper} {o : Oper} {v : Value}

theorem wl (hg : o.guard = none) (hr : RunV P o a w v w') (h : wpList P ops Q rest (a.put o.dst v) w') : wpList P ops Q (o :: rest) a w := by
  refine wpList_plain hg fun K hK => ?_
  unfold Oper.wp
  rw [hr]; exact hK _ _ h
theorem wu (hg : o.guard = none) (hr : RunU P o a w w') (h : wpList P ops Q rest (a.put o.dst undef) w') : wpList P ops Q (o :: rest) a w := by
  refine wpList_plain hg fun K hK => ?_
  unfold Oper.wp
  rw [hr]; exact hK _ _ h

theorem ws {R : Act → Prop} (hg : o.guard = none) (hr : RunV P o a w v w) (h : wpStill P ops w R rest (a.put o.dst v)) : wpStill P ops w R (o :: rest) a := by
  refine wpStill_step fun K hK => ?_
  simp only [Region.wanted, hg, if_true]
  unfold Oper.still
  rw [hr, Oper.stillUpon_value]; exact hK _ h

/-- A region that draws: n quiet operations, then a tail in one order. -/
theorem rt {id : Nat} {l : List Oper} (n : Nat) (hm : P.follows .mixedOrders = true) (hB : Region.lexTailB .any l.toArray n = true)
    (h : wpStill P l.toArray w.drew (fun a' => wpList P l.toArray Q (l.drop n) a' w.drew) (l.take n) a) : (Code.region id l.toArray true).wp P Q a w := wp_region_still_tail n hm hB h
theorem ws_nil {R : Act → Prop} (h : R a) : wpStill P ops w R [] a := h

theorem wp_of_runV {K : Act → World → Prop} (hr : RunV P o a w v w') (h : K (a.put o.dst v) w') : o.wp P a w K Q := by
  unfold Oper.wp; rw [hr]; exact h
theorem wp_of_runU {K : Act → World → Prop} (hr : RunU P o a w w') (h : K (a.put o.dst undef) w') : o.wp P a w K Q := by
  unfold Oper.wp; rw [hr]; exact h

/-! ### the operations -/
theorem r_move {x : Operand} {u : Value} (ho : o.op = .move x) (hx : a.eval x = u) : RunV P o a w u w := by subst hx; unfold RunV execOp; simp only [ho]; rfl
theorem r_assign {x : Operand} {u : Value} (ho : o.op = .assign x) (hx : a.eval x = u) : RunV P o a w u w := by subst hx; unfold RunV execOp; simp only [ho]; rfl
theorem r_load {t : TypeId} {x : Operand} (ho : o.op = .load t x) {b i : Nat} (hx : a.eval x = .pointer (some ⟨b, i, none⟩)) {cs : List Value} {d : TypeDesc} (hc : w.rangeAt b i cs)
    (hu : P.underlying t = some d) (hd : d.isRow = true) (hi : (P.info? t).map (·.size) = some cs.length) : RunV P o a w (.agg cs.toArray) w := by
  unfold RunV execOp
  simp only [ho, hx, Sem.run_bind, run_loadAt_mid w b i t cs d hc hu hd hi, Result.andThen_ok, Sem.run_pure]
theorem r_load1 {t : TypeId} {x : Operand} (ho : o.op = .load t x) {p : Addr} (hx : a.eval x = .pointer (some p)) {u : Value} (hc : w.cell? p = some u) (hagg : (isAgg t).run P w = .ok false w) : RunV P o a w u w := by
  unfold RunV execOp
  simp only [ho, hx, Instr.loadAt, Instr.sureAddr, Sem.run_bind, Sem.run_pure, Result.andThen_ok, loadVar, hagg]
  simp [hc]
theorem r_store {t : TypeId} {x y : Operand} (ho : o.op = .store t x y) {b i : Nat} {cs : List Value} (hx : a.eval x = .pointer (some ⟨b, i, none⟩)) (hy : a.eval y = .agg cs.toArray)
    (ht : w.there b i cs.length) (hi : (P.info? t).map (·.size) = some cs.length) (h1 : ∀ v ∈ cs, v.oneCell' = true) : RunU P o a w (w.setCells b i cs) := by
  unfold RunU execOp
  simp only [ho, hx, hy, Sem.run_bind, run_storeAt_mid w b i t cs.toArray (by simpa using ht) (by simpa using hi) (all_oneCell_toArray h1), Result.andThen_ok, Sem.run_pure]
theorem r_store_new {t : TypeId} {x y : Operand} (ho : o.op = .store t x y) {c c' : Array Value} (hx : a.eval x = .pointer (some ⟨w.heap.size, 0, none⟩)) (hy : a.eval y = .agg c') (hi : (P.info? t).map (·.size) = some c'.size) (hc : c.size = c'.size) (h1 : c'.all (·.oneCell') = true) :
    RunU P o a (w.alloc (.cells c t)) (w.alloc (.cells c' t)) := by
  unfold RunU execOp
  simp only [ho, hx, hy, Sem.run_bind, run_storeAt_new w t c c' hi hc h1, Result.andThen_ok, Sem.run_pure]
theorem r_box {t : TypeId} {x : Operand} (ho : o.op = .box t x) {u : Value} (hx : a.eval x = u) : RunV P o a w (.pointer (some ⟨w.heap.size, 0, none⟩)) (w.alloc (.cells u.cells t)) := by
  unfold RunV execOp
  simp only [ho, hx, Instr.box, newVar, newRow, Sem.run_bind, run_newObj, Result.andThen_ok, Sem.run_pure]
  rfl
theorem r_boxA {t : TypeId} {x : Operand} (ho : o.op = .box t x) {cs : Array Value} (hx : a.eval x = .agg cs) : RunV P o a w (.pointer (some ⟨w.heap.size, 0, none⟩)) (w.alloc (.cells cs t)) := by
  exact r_box (P := P) (w := w) ho hx
theorem r_allocA {t : TypeId} (ho : o.op = .alloc t) {z : Array Value} (hz : (zeroValue t).run P w = .ok (.agg z) w) : RunV P o a w (.pointer (some ⟨w.heap.size, 0, none⟩)) (w.alloc (.cells z t)) := by
  unfold RunV execOp
  simp only [ho, Instr.alloc, newVar, newRow, Sem.run_bind, hz, run_newObj, Result.andThen_ok, Sem.run_pure]
  rfl
theorem r_alloc {t : TypeId} (ho : o.op = .alloc t) {z : Value} (hz : (zeroValue t).run P w = .ok z w) : RunV P o a w (.pointer (some ⟨w.heap.size, 0, none⟩)) (w.alloc (.cells z.cells t)) := by
  unfold RunV execOp
  simp only [ho, Instr.alloc, newVar, newRow, Sem.run_bind, hz, run_newObj, Result.andThen_ok, Sem.run_pure]
  rfl
theorem map_arr {α β : Type} (f : α → β) (xs : Array α) {l : List β} (h : xs.toList.map f = l) : xs.map f = l.toArray := by
  rw [← h]; apply Array.ext'; simp
theorem r_build {t : TypeId} {parts : Array (Nat × Operand)} (ho : o.op = .build t parts) {vs : List (Nat × Value)} (hv : (parts.toList.map fun p => (p.1, a.eval p.2)) = vs) {u : Value} (hr : (Instr.build t vs.toArray).run P w = .ok u w) : RunV P o a w u w := by
  have := map_arr (fun p : Nat × Operand => (p.1, a.eval p.2)) parts hv
  unfold RunV execOp
  simp only [ho, this, Sem.run_bind, hr, Result.andThen_ok, Sem.run_pure]
theorem r_buildSlice {t : TypeId} {n : Nat} {parts : Array (Nat × Operand)} (ho : o.op = .buildSlice t n parts) {vs : List (Nat × Value)} (hv : (parts.toList.map fun p => (p.1, a.eval p.2)) = vs) {u : Value} (hr : (Instr.buildSlice t n vs.toArray).run P w = .ok u w') : RunV P o a w u w' := by
  have := map_arr (fun p : Nat × Operand => (p.1, a.eval p.2)) parts hv
  unfold RunV execOp
  simp only [ho, this, Sem.run_bind, hr, Result.andThen_ok, Sem.run_pure]
theorem r_eql {op : BinOp} {t ty : TypeId} {x y : Operand} (ho : o.op = .binOp op t x y ty) {u1 u2 u : Value} (hx : a.eval x = u1) (hy : a.eval y = u2) (hgd : (eqGuard op t x y u1 u2).run P w = .ok () w) (hr : (binOp op t u1 u2).run P w = .ok u w) : RunV P o a w u w := by
  unfold RunV execOp
  simp only [ho, hx, hy, Sem.run_bind, hgd, hr, Result.andThen_ok, Sem.run_pure]
theorem r_lookup {t : TypeId} {m x : Operand} {ok : Bool} (ho : o.op = .lookup t m x ok) {mv kv u : Value} (hm : a.eval m = mv) (hx : a.eval x = kv) (hr : (Instr.lookup t mv kv ok).run P w = .ok u w) : RunV P o a w u w := by
  unfold RunV execOp
  simp only [ho, hm, hx, Sem.run_bind, hr, Result.andThen_ok, Sem.run_pure]
theorem r_mapUpdate {t : TypeId} {m x y : Operand} (ho : o.op = .mapUpdate t m x y) {mv kv vv : Value} (hm : a.eval m = mv) (hx : a.eval x = kv) (hy : a.eval y = vv) (hr : (Instr.mapUpdate t mv kv vv).run P w = .ok () w') : RunU P o a w w' := by
  unfold RunU execOp
  simp only [ho, hm, hx, hy, Sem.run_bind, hr, Result.andThen_ok, Sem.run_pure]
theorem r_builtin {b : Builtin} {args : Array Operand} {ts : Array TypeId} (ho : o.op = .call { callee := .builtin b, args := args, argTypes := ts }) {vs : List Value} (hv : args.toList.map a.eval = vs) {u : Value}
    (hr : ∀ cs : Array Bool, (builtin b ts o.type cs vs.toArray).run P w = .ok (.value u) w') : RunV P o a w u w' := by
  have h1 := map_arr a.eval args hv
  unfold RunV execOp
  simp only [ho, resolve, Sem.run_bind, Sem.run_pure, Result.andThen_ok, invoke, h1]
  exact hr _
theorem builtin_delete {ts : Array TypeId} {ty : TypeId} {vs : Array Value} {u : Value} (h : (Builtin.delete_ ts ty vs).run P w = .ok u w') (cs : Array Bool) : (builtin .delete ts ty cs vs).run P w = .ok (.value u) w' := by
  simp only [builtin, Sem.run_bind, h, Result.andThen_ok, Sem.run_pure]
theorem builtin_append {ts : Array TypeId} {ty : TypeId} {vs : Array Value} {u : Value} (h : (Builtin.append_ ts ty vs).run P w = .ok u w') (cs : Array Bool) : (builtin .append ts ty cs vs).run P w = .ok (.value u) w' := by
  simp only [builtin, Sem.run_bind, h, Result.andThen_ok, Sem.run_pure]
theorem builtin_copy {ts : Array TypeId} {ty : TypeId} {vs : Array Value} {u : Value} (h : (Builtin.copy_ ts ty vs).run P w = .ok u w') (cs : Array Bool) : (builtin .copy ts ty cs vs).run P w = .ok (.value u) w' := by
  simp only [builtin, Sem.run_bind, h, Result.andThen_ok, Sem.run_pure]
theorem r_atp {t : TypeId} {x : Operand} (ho : o.op = .sliceToArrayPointer t x) {p : Option Addr} {l c n : Nat} {e : TypeId} (hx : a.eval x = .slice p l c) (hu : P.underlying t = some (.array n e)) (hl : n ≤ l) : RunV P o a w (.pointer p) w := by
  unfold RunV execOp
  simp only [ho, hx, Instr.arrayAt, Sem.run_bind, run_underlying hu, Result.andThen_ok, show ¬ l < n by omega, if_false, Sem.run_pure]

theorem r_nilCheck {x : Operand} (ho : o.op = .nilCheck x) {p : Addr} (hx : a.eval x = .pointer (some p)) : RunV P o a w (.pointer (some p)) w := by
  unfold RunV execOp
  simp only [ho, hx]
  rfl
/-! ### building values out of parts -/
theorem foldl_set {α : Type} : ∀ (xs : List α) (k : Nat) (cs : Array α) (off : Nat), off + k + xs.length ≤ cs.size →
    ((xs.zipIdx k).foldl (fun cs (c : α × Nat) => cs.setIfInBounds (off + c.2) c.1) cs).toList = cs.toList.take (off + k) ++ xs ++ cs.toList.drop (off + k + xs.length)
  | [], k, cs, off, h => by simp
  | x :: r, k, cs, off, h => by
    simp only [List.length_cons] at h
    simp only [List.zipIdx_cons, List.foldl_cons]
    rw [foldl_set r (k + 1) _ off (by simp; omega)]
    simp only [Array.toList_setIfInBounds, List.length_cons]
    have e1 : (cs.toList.set (off + k) x).take (off + (k + 1)) = cs.toList.take (off + k) ++ [x] := by
      rw [show off + (k + 1) = off + k + 1 by omega, List.take_succ_eq_append_getElem (by simp; omega)]
      rw [List.take_set_of_le (by omega)]
      simp
    rw [e1, List.drop_set_of_lt (by omega)]
    simp [show off + (k + 1) + r.length = off + k + (r.length + 1) by omega]

def catCells (vs : List Value) : List Value := vs.flatMap fun v => v.cells.toList
theorem catCells_cons (v : Value) (vs : List Value) : catCells (v :: vs) = v.cells.toList ++ catCells vs := by simp [catCells]

/-- Parts laid one behind the other. -/
theorem fill_seq {place : Nat → Option (Nat × Nat)} : ∀ (vs : List Value) (i off : Nat) (cells : Array Value),
    (∀ j v, vs[j]? = some v → place (i + j) = some (off + (catCells (vs.take j)).length, v.cells.size)) → off + (catCells vs).length ≤ cells.size →
    ∃ r : Array Value, Instr.fill place cells ((vs.zipIdx i).map fun p => (p.2, p.1)) = some r ∧ r.toList = cells.toList.take off ++ catCells vs ++ cells.toList.drop (off + (catCells vs).length)
  | [], i, off, cells, _, _ => ⟨cells, rfl, by simp [catCells]⟩
  | v :: vs, i, off, cells, hp, hl => by
    have h0 := hp 0 v rfl
    simp only [Nat.add_zero, List.take_zero, catCells, List.flatMap_nil, List.length_nil] at h0
    rw [catCells_cons] at hl ⊢
    simp only [List.length_append, Array.length_toList] at hl
    have hf := foldl_set v.cells.toList 0 cells off (by simp only [Array.length_toList]; omega)
    simp only [Nat.add_zero] at hf
    obtain ⟨c1, hc1⟩ : ∃ c1, v.cells.zipIdx.foldl (fun cs (c : Value × Nat) => cs.setIfInBounds (off + c.2) c.1) cells = c1 := ⟨_, rfl⟩
    have hf1 : c1.toList = cells.toList.take off ++ v.cells.toList ++ cells.toList.drop (off + v.cells.toList.length) := by
      rw [← hc1, ← hf, ← Array.foldl_toList]
      congr 1
      congr 1
      simp
    have hs1 : c1.size = cells.size := by
      have := congrArg List.length hf1
      simp at this
      omega
    obtain ⟨r, hr, hr2⟩ := fill_seq (place := place) vs (i + 1) (off + v.cells.size) c1 (fun j u hu => by
      have := hp (j + 1) u (by simpa using hu)
      rw [show i + 1 + j = i + (j + 1) by omega, this]
      simp [catCells_cons]; omega) (by omega)
    refine ⟨r, ?_, ?_⟩
    · simp only [List.zipIdx_cons, List.map_cons, Instr.fill, h0]
      rw [if_neg (by simp; omega)]
      rw [← hr, ← hc1]
    · rw [hr2, hf1]
      apply List.ext_getElem?
      intro k
      simp only [List.getElem?_append, List.length_append, List.length_take, Array.length_toList, List.getElem?_take, List.getElem?_drop, List.length_drop]
      by_cases k1 : k < off
      · simp [k1, show k < min off cells.size by omega, show k < off + v.cells.size by omega, show k < min off cells.size + v.cells.size by omega, show k < min off cells.size + (v.cells.size + (catCells vs).length) by omega,
          show min (off + v.cells.size) (min off cells.size + v.cells.size + (cells.size - (off + v.cells.size))) = off + v.cells.size by omega, show k < off + v.cells.size + (catCells vs).length by omega]
      · simp only [show min off cells.size = off by omega, k1, if_false]
        by_cases k2 : k < off + v.cells.size
        · simp [k2, show k < off + v.cells.size + (catCells vs).length by omega, show k < off + (v.cells.size + (catCells vs).length) by omega, show k - off < v.cells.size by omega]
        · by_cases k3 : k < off + v.cells.size + (catCells vs).length
          · simp [k2, k3, show k < off + (v.cells.size + (catCells vs).length) by omega, show ¬ k - off < v.cells.size by omega, show k - off - v.cells.size = k - (off + v.cells.size) by omega]
          · simp [k3, show ¬ k < off + (v.cells.size + (catCells vs).length) by omega,
              show ¬ (off + v.cells.size + (catCells vs).length + (k - (off + v.cells.size + (catCells vs).length))) < off + v.cells.size by omega]
            congr 1
            omega

def placesOf (P : Program) (t : TypeId) : Option (Array (Nat × Nat)) :=
  match P.underlying t with
  | some (.struct fs) => if fs.all fun f => (P.info? f.type).isSome then some (fs.map fun f => (f.offset, P.cellsOf f.type)) else none
  | _ => none

theorem run_places {P : Program} {w : World} : ∀ (fs : List Field), (∀ f ∈ fs, (P.info? f.type).isSome = true) →
    ((fs.mapM fun f => (do pure (f.offset, ← sizeOf f.type) : Sem (Nat × Nat))) : Sem (List (Nat × Nat))).run P w = .ok (fs.map fun f => (f.offset, P.cellsOf f.type)) w
  | [], _ => by simp
  | f :: fs, h => by
    obtain ⟨i, hi⟩ := Option.isSome_iff_exists.1 (h f (List.mem_cons_self ..))
    have ih := run_places (w := w) fs (fun g hg => h g (List.mem_cons_of_mem _ hg))
    simp only [List.mapM_cons, Sem.run_bind, run_sizeOf w hi, Result.andThen_ok, Sem.run_pure, ih, List.map_cons]

/-- A struct built out of all its parts. -/
theorem run_build_all {t : TypeId} {z : Array Value} {vs : List Value} {pl : Array (Nat × Nat)} (hz : (zeroValue t).run P w = .ok (.agg z) w) (hp : placesOf P t = some pl)
    (hv : ∀ j v, vs[j]? = some v → pl[j]? = some ((catCells (vs.take j)).length, v.cells.size)) (hl : (catCells vs).length = z.size) :
    (Instr.build t ((vs.zipIdx 0).map fun p => (p.2, p.1)).toArray).run P w = .ok (.agg (catCells vs).toArray) w := by
  unfold placesOf at hp
  split at hp
  · rename_i fs hu
    split at hp
    · rename_i hall
      obtain ⟨r, hr, hr2⟩ := fill_seq (place := fun i => pl[i]?) vs 0 0 z (by simpa using hv) (by omega)
      have hm := run_places (P := P) (w := w) fs.toList (fun f hf => by
        have := Array.all_eq_true_iff_forall_mem.1 hall f (by simpa using hf)
        exact this)
      unfold Instr.build
      simp only [Sem.run_bind, hz, Result.andThen_ok, Value.cells, run_underlying hu]
      have hm2 : ((fs.mapM fun f => (do pure (f.offset, ← sizeOf f.type) : Sem (Nat × Nat))) : Sem (Array (Nat × Nat))).run P w = .ok pl w := by
        rw [Array.mapM_eq_mapM_toList]
        rw [map_eq_pure_bind, Sem.run_bind, hm]
        cases hp
        exact congrArg (fun x => Result.ok x w) (by apply Array.ext'; simp)
      rw [hm2]
      simp only [Result.andThen_ok, hr, Sem.run_pure]
      congr 2
      apply Array.ext'
      rw [hr2]
      simp [hl]
    · cases hp
  · cases hp

theorem catCells_len {s : Nat} : ∀ (vs : List Value), (∀ v ∈ vs, v.cells.size = s) → (catCells vs).length = vs.length * s
  | [], _ => by simp [catCells]
  | v :: vs, h => by
    rw [catCells_cons, List.length_append, catCells_len vs (fun u hu => h u (List.mem_cons_of_mem _ hu)), Array.length_toList, h v (List.mem_cons_self ..), List.length_cons, Nat.add_mul]
    omega

/-- A slice literal out of all its elements. -/
theorem run_buildSlice_all {t e : TypeId} {s : Nat} {z : Value} {vs : List Value} (hu : P.underlying t = some (.slice e)) (hs : (P.info? e).map (·.size) = some s) (hz : (zeroValue e).run P w = .ok z w)
    (hv : ∀ v ∈ vs, v.cells.size = s) (hl : vs.length * s ≤ 2 ^ 24) :
    (Instr.buildSlice t vs.length ((vs.zipIdx 0).map fun p => (p.2, p.1)).toArray).run P w = .ok (.slice (some ⟨w.heap.size, 0, none⟩) vs.length vs.length) (w.alloc (.cells (catCells vs).toArray e)) := by
  obtain ⟨zs, hzs⟩ : ∃ zs, (if vs.length * s = 0 then pure #[] else (do pure (← zeroValue e).cells) : Sem (Array Value)).run P w = .ok zs w := by
    split
    · exact ⟨_, rfl⟩
    · exact ⟨z.cells, by simp only [Sem.run_bind, hz, Result.andThen_ok, Sem.run_pure]⟩
  obtain ⟨r, hr, hr2⟩ := fill_seq (place := fun i => some (i * s, s)) vs 0 0 ((Array.range (vs.length * s)).map (fun i => zs[i % zs.size]!)) (fun j v hj => by
    rw [catCells_len (s := s) _ (fun u hu => hv u (List.mem_of_mem_take hu)), hv v (List.mem_of_getElem? hj)]
    have := (List.getElem?_eq_some_iff.1 hj).1
    simp [show min j vs.length = j by omega]) (by rw [catCells_len vs hv]; simp)
  have this : r = (catCells vs).toArray := by
    apply Array.ext'
    rw [hr2]
    simp [catCells_len vs hv]
  subst this
  unfold Instr.buildSlice
  simp only [Sem.run_bind, run_underlying hu, Result.andThen_ok, size_of_info w hs]
  rw [if_neg (by omega)]
  by_cases h0 : vs.length * s = 0
  · simp only [h0, if_true, Sem.run_pure] at hzs
    cases hzs
    simp only [h0, if_true]
    rw [h0] at hr
    simp only [hr, newRow, Sem.run_bind, run_newObj, Sem.run_pure, Result.andThen_ok]
    rfl
  · simp only [h0, if_false, Sem.run_bind, hz, Result.andThen_ok, Sem.run_pure] at hzs
    cases hzs
    simp only [h0, if_false, Sem.run_bind, hz, Result.andThen_ok]
    simp only [hr, newRow, Sem.run_bind, run_newObj, Sem.run_pure, Result.andThen_ok]
    rfl
end
end Go.Proofs.Yticgkbpmaakkiaa
