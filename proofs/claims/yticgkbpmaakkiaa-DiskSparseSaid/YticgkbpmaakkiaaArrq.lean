/-
  Arrays of bytes by value: equality, and as keys of maps. Program-free.
-/
import Derived.Test.YticgkbpmaakkiaaMapq
import Derived.Laws.StructEq
namespace Go.Proofs.Yticgkbpmaakkiaa
open Go.RowKit

def u8s (l : List UInt8) : List Value := l.map fun b => .int .u8 (b.toNat : Int)
theorem u8s_length (l : List UInt8) : (u8s l).length = l.length := by simp [u8s]
theorem u8s_one (l : List UInt8) : ∀ v ∈ u8s l, v.oneCell' = true := by
  intro v hv
  obtain ⟨_, _, rfl⟩ := List.mem_map.1 hv
  rfl
theorem u8s_all (l : List UInt8) : (u8s l).toArray.all (·.oneCell') = true := all_oneCell_toArray (u8s_one l)
theorem u8s_get (l : List UInt8) (i : Nat) : (u8s l)[i]? = l[i]?.map fun b => .int .u8 (b.toNat : Int) := by simp [u8s]
theorem u8s_append (a b : List UInt8) : u8s (a ++ b) = u8s a ++ u8s b := by simp [u8s]
theorem u8s_take (l : List UInt8) (n : Nat) : (u8s l).take n = u8s (l.take n) := by simp [u8s, List.map_take]
theorem u8s_drop (l : List UInt8) (n : Nat) : (u8s l).drop n = u8s (l.drop n) := by simp [u8s, List.map_drop]
theorem u8s_set (l : List UInt8) (n : Nat) (b : UInt8) : (u8s l).set n (.int .u8 (b.toNat : Int)) = u8s (l.set n b) := by simp [u8s, List.map_set]
theorem u8s_inj {a b : List UInt8} (h : u8s a = u8s b) : a = b := by
  unfold u8s at h
  refine (List.map_inj_right ?_).1 h
  intro x y e
  simp only [Value.int.injEq, true_and] at e
  exact UInt8.toNat_inj.1 (by omega)

section
variable {P : Program} (w : World)

theorem run_part_int {e : TypeId} {q : IntKind} (he : P.underlying e = some (.int q)) {cs : Array Value} {i : Nat} {v : Value} (hv : cs[i]? = some v) : (part e cs i).run P w = .ok v w := by
  unfold part
  simp only [Sem.run_bind]
  have : (isAgg e).run P w = .ok false w := by
    unfold isAgg
    rw [Sem.run_bind, run_underlying he w]
    simp
  simp [this, hv]

theorem size_of_info {e : TypeId} {n : Nat} (hs : (P.info? e).map (·.size) = some n) : (sizeOf e).run P w = .ok n w := by
  cases hq : P.info? e with
  | none => simp [hq] at hs
  | some i => simp [hq] at hs; simp [sizeOf, typeInfo, hq, hs]

theorem run_eqArr_loop (d : Nat) {e : TypeId} {q : IntKind} (he : P.underlying e = some (.int q)) (hs : (P.info? e).map (·.size) = some 1) (xs ys : List UInt8) :
    ∀ (k i : Nat), i + k = xs.length → i + k = ys.length →
    ((forIn (List.range' i k 1) ((none, ()) : Option Bool × Unit) fun j (_ : Option Bool × Unit) => (do
      if !(← Op.equalIn (d + 1) e (← part e ((xs.map fun b => Value.int q (b.toNat : Int)).toArray) (j * 1)) (← part e ((ys.map fun b => Value.int q (b.toNat : Int)).toArray) (j * 1))) then pure (ForInStep.done (some false, ()))
      else pure (ForInStep.yield (none, ())) : Sem (ForInStep (Option Bool × Unit)))) : Sem (Option Bool × Unit)).run P w =
      .ok (if xs.drop i = ys.drop i then (none, ()) else (some false, ())) w
  | 0, i, hx, hy => by
    simp only [List.range'_zero, List.forIn_nil, Sem.run_pure]
    rw [if_pos]
    rw [List.drop_of_length_le (by omega), List.drop_of_length_le (by omega)]
  | k + 1, i, hx, hy => by
    have h1 : i < xs.length := by omega
    have h2 : i < ys.length := by omega
    have p1 := run_part_int (P := P) w he (cs := (xs.map fun b => Value.int q (b.toNat : Int)).toArray) (i := i * 1) (v := .int q (xs[i].toNat : Int)) (by simp [h1])
    have p2 := run_part_int (P := P) w he (cs := (ys.map fun b => Value.int q (b.toNat : Int)).toArray) (i := i * 1) (v := .int q (ys[i].toNat : Int)) (by simp [h2])
    have ih := run_eqArr_loop d he hs xs ys k (i + 1) (by omega) (by omega)
    rw [List.range'_succ]
    simp only [List.forIn_cons, Sem.run_bind, p1, Result.andThen_ok, p2, run_equalIn_int w d e q q _ _ he]
    rw [List.drop_eq_getElem_cons h1, List.drop_eq_getElem_cons h2]
    by_cases hxy : xs[i] = ys[i]
    · simp only [hxy, beq_self_eq_true, Bool.not_true, Bool.false_eq_true, if_false, Sem.run_pure, Result.andThen_ok, List.cons.injEq, true_and]
      exact ih
    · have : ((xs[i].toNat : Int) == (ys[i].toNat : Int)) = false := by
        rw [beq_eq_false_iff_ne]
        intro e
        exact hxy (UInt8.toNat_inj.1 (by omega))
      simp only [this, Bool.not_false, if_true, Sem.run_pure, Result.andThen_ok, List.cons.injEq, hxy, false_and, if_false]

/-- Equality of two arrays of bytes. -/
theorem run_equalIn_bytes (d : Nat) {t e : TypeId} {n : Nat} (ht : P.underlying t = some (.array n e)) (he : P.underlying e = some (.int .u8)) (hs : (P.info? e).map (·.size) = some 1)
    (xs ys : List UInt8) (hx : xs.length = n) (hy : ys.length = n) : (Op.equalIn (d + 2) t (.agg (u8s xs).toArray) (.agg (u8s ys).toArray)).run P w = .ok (decide (xs = ys)) w := by
  unfold Op.equalIn
  simp only [Sem.run_bind, run_underlying ht, Result.andThen_ok, size_of_info w hs]
  simp only [Std.Legacy.Range.forIn_eq_forIn_range', Std.Legacy.Range.size, Nat.sub_zero, Nat.add_one_sub_one, Nat.div_one]
  have h := run_eqArr_loop (P := P) w d he hs xs ys n 0 (by omega) (by omega)
  unfold u8s
  simp only [List.drop_zero] at h
  rw [h]
  by_cases hxy : xs = ys <;> simp [hxy]

theorem run_equal_bytes {t e : TypeId} {n : Nat} (ht : P.underlying t = some (.array n e)) (he : P.underlying e = some (.int .u8)) (hs : (P.info? e).map (·.size) = some 1)
    (xs ys : List UInt8) (hx : xs.length = n) (hy : ys.length = n) : (Op.equal t (.agg (u8s xs).toArray) (.agg (u8s ys).toArray)).run P w = .ok (decide (xs = ys)) w :=
  run_equalIn_bytes w 9998 ht he hs xs ys hx hy

theorem run_eql_bytes {t e : TypeId} {n : Nat} (ht : P.underlying t = some (.array n e)) (he : P.underlying e = some (.int .u8)) (hs : (P.info? e).map (·.size) = some 1)
    (xs ys : List UInt8) (hx : xs.length = n) (hy : ys.length = n) : (binOp .eql t (.agg (u8s xs).toArray) (.agg (u8s ys).toArray)).run P w = .ok (.bool (decide (xs = ys))) w := by
  rw [run_eql_struct, run_equalIn_bytes w 9998 ht he hs xs ys hx hy]; rfl

theorem run_neq_bytes {t e : TypeId} {n : Nat} (ht : P.underlying t = some (.array n e)) (he : P.underlying e = some (.int .u8)) (hs : (P.info? e).map (·.size) = some 1)
    (xs ys : List UInt8) (hx : xs.length = n) (hy : ys.length = n) : (binOp .neq t (.agg (u8s xs).toArray) (.agg (u8s ys).toArray)).run P w = .ok (.bool (!decide (xs = ys))) w := by
  rw [run_neq_struct, run_equalIn_bytes w 9998 ht he hs xs ys hx hy]; rfl
end

/-! ### as keys -/
section
variable {P : Program}

theorem run_checkKey_loop (b : Bool) (d : Nat) {e : TypeId} {q : IntKind} (he : P.underlying e = some (.int q)) (hs : (P.info? e).map (·.size) = some 1) (xs : List UInt8) (w : World) :
    ∀ (k i : Nat), i + k = xs.length →
    ((forIn (List.range' i k 1) PUnit.unit fun j (_ : PUnit) => (do
      Instr.checkKey b (d + 1) e (← part e (u8s xs).toArray (j * (← sizeOf e)))
      pure (ForInStep.yield PUnit.unit) : Sem (ForInStep PUnit))) : Sem PUnit).run P w = .ok PUnit.unit w
  | 0, i, hx => by simp
  | k + 1, i, hx => by
    have h1 : i < xs.length := by omega
    have p1 := run_part_int (P := P) w he (cs := (u8s xs).toArray) (i := i * 1) (v := .int .u8 (xs[i].toNat : Int)) (by simp [u8s, h1])
    have ih := run_checkKey_loop b d he hs xs w k (i + 1) (by omega)
    have p2 : (Instr.checkKey b (d + 1) e (.int .u8 (xs[i].toNat : Int))).run P w = .ok () w := by
      unfold Instr.checkKey
      simp [run_underlying he]
    rw [List.range'_succ]
    simp only [List.forIn_cons, Sem.run_bind, size_of_info w hs, Result.andThen_ok, p1, p2, Sem.run_pure]
    exact ih

def ByteKey (n : Nat) := { l : List UInt8 // l.length = n }
instance (n : Nat) : DecidableEq (ByteKey n) := fun a b => decidable_of_iff (a.1 = b.1) Subtype.ext_iff.symm
def encB {n : Nat} (k : ByteKey n) : Value := .agg (u8s k.1).toArray

theorem run_findAsking_bytes {kt e : TypeId} {n : Nat} (ht : P.underlying kt = some (.array n e)) (he : P.underlying e = some (.int .u8)) (hs : (P.info? e).map (·.size) = some 1) (k : ByteKey n) (w : World) :
    ∀ (es : List MapEntry) (l : List (ByteKey n × Value)) (i : Nat), es.map (fun e => (e.key, e.val)) = l.map (fun x => (encB x.1, x.2)) → (Instr.findAsking kt (encB k) es i).run P w = .ok (afind k l i) w
  | [], l, i, h => by
    have : l = [] := by simpa using h.symm
    subst this; rfl
  | e :: es, [], i, h => by simp at h
  | e :: es, x :: l, i, h => by
    simp only [List.map_cons, List.cons.injEq, Prod.mk.injEq] at h
    obtain ⟨⟨h1, h2⟩, h3⟩ := h
    unfold Instr.findAsking
    rw [h1]
    simp only [Sem.run_bind]
    unfold encB
    rw [run_equal_bytes w ht he hs _ _ k.2 x.1.2]
    simp only [Result.andThen_ok, Sem.run_ite, decide_eq_true_eq, Sem.run_pure, afind]
    by_cases hk : x.1 = k
    · subst hk; simp [h2]
    · have : ¬ k.1 = x.1.1 := fun e => hk (Subtype.ext e.symm)
      rw [if_neg this, if_neg hk]
      exact run_findAsking_bytes ht he hs k w es l (i + 1) h3

theorem keyOk_bytes {kt e : TypeId} {n : Nat} (ht : P.underlying kt = some (.array n e)) (he : P.underlying e = some (.int .u8)) (hs : (P.info? e).map (·.size) = some 1) : KeyOk P kt (encB (n := n)) where
  find := by
    intro k l es h w
    unfold Instr.findKey
    simp only [Sem.run_bind, run_underlying ht, Result.andThen_ok]
    cases es with
    | nil =>
      have : l = [] := by simpa using h.symm
      subst this
      simp [Instr.findNow, afind]
    | cons e0 es =>
      have hnow : Instr.findNow (.array n e) (encB k) (e0 :: es) 0 = none := rfl
      rw [hnow]
      exact run_findAsking_bytes ht he hs k w _ _ 0 h
  check := by
    intro b k w
    show (Instr.checkKey b (9998 + 1 + 1) kt (.agg (u8s k.1).toArray)).run P w = .ok () w
    unfold Instr.checkKey
    simp only [Sem.run_bind, run_underlying ht, Result.andThen_ok]
    simp only [Std.Legacy.Range.forIn_eq_forIn_range', Std.Legacy.Range.size, Nat.sub_zero, Nat.add_one_sub_one, Nat.div_one]
    have h := run_checkKey_loop (P := P) b 9998 he hs k.1 w n 0 (by simpa using k.2.symm)
    rw [show (9998 : Nat) + 1 = 9999 from rfl] at h
    rw [h]; rfl
  stays := by
    intro k w
    unfold Instr.keyThatStays
    rw [if_pos]
    · rfl
    · show Instr.sameBits (9998 + 1 + 1) (.agg (u8s k.1).toArray) (.agg (u8s k.1).toArray) = true
      unfold Instr.sameBits
      simp only [beq_self_eq_true, Bool.true_and, List.all_eq_true]
      intro x hx
      have : ∀ (l : List UInt8) (x : Value × Value), x ∈ (u8s l).zip (u8s l) → ∃ b, x = (.int .u8 b, .int .u8 b) := by
        intro l
        induction l with
        | nil => intro x hx; simp [u8s] at hx
        | cons b r ih =>
          intro x hx
          simp only [u8s, List.map_cons, List.zip_cons_cons, List.mem_cons] at hx
          rcases hx with rfl | hx
          · exact ⟨_, rfl⟩
          · exact ih x hx
      obtain ⟨b, rfl⟩ := this k.1 x hx
      unfold Instr.sameBits
      simp
end
end Go.Proofs.Yticgkbpmaakkiaa
