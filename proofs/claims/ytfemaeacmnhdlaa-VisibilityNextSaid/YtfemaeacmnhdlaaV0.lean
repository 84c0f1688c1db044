/-
  Identities and rows: how they lie in memory.
-/
import Derived.Test.YtfemaeacmnhdlaaProg
import Derived.Test.YtfemaeacmnhdlaaOpn
import Derived.Test.YtfemaeacmnhdlaaRng
import Derived.WalkKit
import Derived.KernelRfl
import Derived.RegionTactic
import Derived.BigQuiet
import Derived.Outline
import Derived.Carry
namespace Go.Proofs.Ytfemaeacmnhdlaa
open Go.RowKit Go.Deep

abbrev Id := ByteKey 32
instance : DecidableEq Id := fun a b => decidable_of_iff (a.1 = b.1) Subtype.ext_iff.symm
def idC (x : Id) : List Value := u8s x.1
def zeroId : Id := ⟨List.replicate 32 0, List.length_replicate ..⟩
theorem idC_length (x : Id) : (idC x).length = 32 := by rw [idC, u8s_length, x.2]

theorem info31 : (Try.prog.info? 31).map (fun i => (i.zero, i.size, i.bytes)) = some (some (.agg (idC zeroId).toArray), 32, 32) := by kernel_rfl
theorem sz31 : (Try.prog.info? 31).map (·.size) = some 32 := by kernel_rfl
theorem sz5 : (Try.prog.info? 5).map (·.size) = some 1 := by kernel_rfl
theorem zero31 (w : World) : (zeroValue 31).run Try.prog w = .ok (.agg (idC zeroId).toArray) w := by
  obtain ⟨i, hi, hz, _⟩ := info_parts info31
  simp [zeroValue, typeInfo, hi, hz]
theorem eq31 (s t : Id) (w : World) : (binOp .eql 31 (.agg (idC s).toArray) (.agg (idC t).toArray)).run Try.prog w = .ok (.bool (decide (s = t))) w := by
  have := run_eql_bytes (P := Try.prog) (w := w) Try.underlying31 Try.underlying5 sz5 (xs := s.1) (ys := t.1) s.2 t.2
  rw [show (decide (s = t)) = decide (s.1 = t.1) from decide_eq_decide.2 Subtype.ext_iff]
  exact this
theorem neq31 (s t : Id) (w : World) : (binOp .neq 31 (.agg (idC s).toArray) (.agg (idC t).toArray)).run Try.prog w = .ok (.bool (!decide (s = t))) w := by
  have := run_neq_bytes (P := Try.prog) (w := w) Try.underlying31 Try.underlying5 sz5 (xs := s.1) (ys := t.1) s.2 t.2
  rw [show (decide (s = t)) = decide (s.1 = t.1) from decide_eq_decide.2 Subtype.ext_iff]
  exact this
theorem guard31 (op : BinOp) (x y : Operand) (xs ys : Array Value) (w : World) : (eqGuard op 31 x y (.agg xs) (.agg ys)).run Try.prog w = .ok () w := run_eqGuard_agg w op 31 x y xs ys (by kernel_rfl)
theorem idC_one (x : Id) : ∀ v ∈ idC x, v.oneCell' = true := u8s_one x.1
theorem elem31 : ElemOk Try.prog 31 32 32 idC := ⟨⟨_, info31, by simp [Value.cells, idC_length]⟩, by omega, idC_length, idC_one⟩
theorem keyId : KeyOk Try.prog 31 (encB (n := 32)) := keyOk_bytes Try.underlying31 Try.underlying5 sz5

/-! ### read-only lists -/
section
variable {α : Type}
/-- The elements of l lie one behind the other from address a on, k cells each. -/
def AtL (w : World) (a : Option Addr) (k : Nat) (enc : α → List Value) (l : List α) : Prop := l = [] ∨ ∃ b o, a = some ⟨b, o, none⟩ ∧ ∀ (i : Nat) (x : α), l[i]? = some x → w.rangeAt b (o + i * k) (enc x)
theorem AtL.fr {w w' : World} {a : Option Addr} {k : Nat} {enc : α → List Value} {l : List α} (h : AtL w a k enc l) {S : Nat → Prop} (hf : Fr S w w') (hn : ∀ b, a.map (·.block) = some b → ¬ S b) : AtL w' a k enc l :=
  h.imp id fun ⟨b, o, e, q⟩ => ⟨b, o, e, fun i x hx j v hv => hf.cell (q i x hx j v hv) (hn b (by rw [e]; rfl))⟩
theorem AtL.non {w w' : World} {a : Option Addr} {k : Nat} {enc : α → List Value} {l : List α} (h : AtL w a k enc l) (hf : Fr Non w w') : AtL w' a k enc l := h.fr hf (fun _ _ h => h)
theorem AtL.get {w : World} {a : Option Addr} {k : Nat} {enc : α → List Value} {l : List α} (h : AtL w a k enc l) {i : Nat} {x : α} (hx : l[i]? = some x) : ∃ b o, a = some ⟨b, o, none⟩ ∧ w.rangeAt b (o + i * k) (enc x) := by
  rcases h with rfl | ⟨b, o, e, q⟩
  · cases hx
  · exact ⟨b, o, e, q i x hx⟩
theorem AtL.nil (w : World) (a : Option Addr) (k : Nat) (enc : α → List Value) : AtL w a k enc ([] : List α) := .inl rfl
theorem AtL.own {w : World} {e : TypeId} {k bytes : Nat} {enc : α → List Value} (E : ElemOk Try.prog e k bytes enc) {a : Option Addr} {n cap : Nat} {l : List α} (h : Own w e k enc (.slice a n cap) l) : AtL w a k enc l := by
  obtain ⟨a', cap', e', _, hn, hag⟩ := Own.shape h
  obtain ⟨rfl, rfl, rfl⟩ := Value.slice.inj e'
  cases a with
  | none => exact .inl (hn rfl)
  | some ad =>
    obtain ⟨g, rfl⟩ := hag ad rfl
    exact .inr ⟨g, 0, rfl, fun i x hx => by rw [Nat.zero_add]; exact Own.elem E h hx⟩
/-- Without its first elements. -/
theorem AtL.drop {w : World} {b o k : Nat} {enc : α → List Value} {l : List α} (h : AtL w (some ⟨b, o, none⟩) k enc l) (n : Nat) : AtL w (some ⟨b, o + n * k, none⟩) k enc (l.drop n) := by
  rcases h with rfl | ⟨b', o', e, q⟩
  · exact .inl (by simp)
  · cases e
    refine .inr ⟨b, o + n * k, rfl, fun i x hx => ?_⟩
    rw [List.getElem?_drop] at hx
    rw [show o + n * k + i * k = o + (n + i) * k by rw [Nat.add_mul]; omega]
    exact q _ _ hx
theorem AtL.take {w : World} {a : Option Addr} {k : Nat} {enc : α → List Value} {l : List α} (h : AtL w a k enc l) (n : Nat) : AtL w a k enc (l.take n) := by
  rcases h with rfl | ⟨b', o', e, q⟩
  · exact .inl (by simp)
  · refine .inr ⟨b', o', e, fun i x hx => ?_⟩
    rw [List.getElem?_take] at hx
    split at hx
    · exact q i x hx
    · cases hx
end

/-! ### rows -/
abbrev Raw := Option Addr × Nat × Nat
def rawV (s : Raw) : Value := .slice s.1 s.2.1 s.2.2
structure Row where
  id : Id
  auth : ByteKey 16
  date : Int
  grp : Raw
  ra : Option Addr
  rc : Nat
  refs : List Id
  sup : Id
def rowC (r : Row) : List Value := idC r.id ++ (u8s r.auth.1 ++ ([.int .i64 r.date, rawV r.grp, .slice r.ra r.refs.length r.rc] ++ idC r.sup))
theorem rowC_length (r : Row) : (rowC r).length = 83 := by simp [rowC, idC_length, u8s_length, r.auth.2]
theorem rowC_id (r : Row) (j : Nat) (v : Value) (h : (idC r.id)[j]? = some v) : (rowC r)[j]? = some v := by
  unfold rowC
  rw [List.getElem?_append_left (List.getElem?_eq_some_iff.1 h).1]; exact h
theorem rowC_date (r : Row) : (rowC r)[48]? = some (.int .i64 r.date) := by
  unfold rowC
  rw [List.getElem?_append_right (by rw [idC_length]; omega), idC_length, List.getElem?_append_right (by rw [u8s_length, r.auth.2]; omega), u8s_length, r.auth.2]
  rfl
theorem rowC_refs (r : Row) : (rowC r)[50]? = some (.slice r.ra r.refs.length r.rc) := by
  unfold rowC
  rw [List.getElem?_append_right (by rw [idC_length]; omega), idC_length, List.getElem?_append_right (by rw [u8s_length, r.auth.2]; omega), u8s_length, r.auth.2]
  rfl
theorem rowC_one (r : Row) : ∀ v ∈ rowC r, v.oneCell' = true := by
  intro v hv
  simp only [rowC, List.mem_append, List.mem_cons, List.not_mem_nil, or_false] at hv
  rcases hv with h | h | (rfl | rfl | rfl) | h
  · exact idC_one _ v h
  · exact u8s_one _ v h
  · rfl
  · rfl
  · rfl
  · exact idC_one _ v h
def zeroRow : Row := ⟨zeroId, ⟨List.replicate 16 0, List.length_replicate ..⟩, 0, (none, 0, 0), none, 0, [], zeroId⟩
theorem info36 : (Try.prog.info? 36).map (fun i => (i.zero, i.size)) = some (some (.agg (rowC zeroRow).toArray), 83) := by kernel_rfl
theorem sz36 : (Try.prog.info? 36).map (·.size) = some 83 := by kernel_rfl
theorem zero36 (w : World) : (zeroValue 36).run Try.prog w = .ok (.agg (rowC zeroRow).toArray) w := (zero_of_info info36).1 w
theorem infoB36 : (Try.prog.info? 36).map (fun i => (i.zero, i.size, i.bytes)) = some (some (.agg (rowC zeroRow).toArray), 83, 136) := by kernel_rfl
theorem elem36 : ElemOk Try.prog 36 83 136 rowC := ⟨⟨_, infoB36, by simp [Value.cells, rowC_length]⟩, by omega, rowC_length, rowC_one⟩
end Go.Proofs.Ytfemaeacmnhdlaa
