/-
  Equality of sectors, of pending writes, of lists of them.
  slices.Equal over pending writes.
-/
import Derived.Test.YticgkbpmaakkiaaDl7q
import Derived.Laws.StructEq

namespace Go.Proofs.Yticgkbpmaakkiaa
open Go.RowKit

set_option maxRecDepth 100000 in
theorem same_c (w : World) (a1 : Option Addr) (c1 : Nat) (a2 : Option Addr) (c2 : Nat) (s t : Sec) (h1 : BytesAt w (.slice a1 256 c1) s.1) (h2 : BytesAt w (.slice a2 256 c2) t.1) :
    Calls Try.prog 53 #[.slice a1 256 c1, .slice a2 256 c2] w fun e w' => e = .returned (.bool (decide (s = t))) ∧ w = w' := by
  have H1 := Lib.hid h1
  have H2 := Lib.hid h2
  have HE := Lib.hid (show decide (s = t) = decide (s.1 = t.1) from decide_eq_decide.2 Subtype.ext_iff)
  clear h1 h2
  go_enter Try.func53, Try.ntmps53
  go_wp2_with (first
    | (guard_target =~ wpList _ _ _ (⟨some 6, Op.convert 30 9 _, _, _, _, _⟩ :: _) _ _; refine wl rfl (r_convert (u := .slice a1 256 c1) rfl rfl (run_str Try.underlying30 Try.underlying5 Try.underlying9 H1.out)) ?_)
    | (guard_target =~ wpList _ _ _ (⟨some 8, Op.convert 30 9 _, _, _, _, _⟩ :: _) _ _; refine wl rfl (r_convert (u := .slice a2 256 c2) rfl rfl (run_str Try.underlying30 Try.underlying5 Try.underlying9 H2.out)) ?_)
    | (guard_target =~ wpList _ _ _ (⟨_, Op.binOp _ 9 _ _ _, _, _, _, _⟩ :: _) _ _; refine wl rfl (r_strEql (l1 := s.1) (l2 := t.1) rfl Try.underlying9 rfl rfl) ?_)
    | fail)
  go_ret
  exact ⟨by rw [HE.out]; rfl, rfl⟩

theorem fields82 : (Try.prog.fieldsOf 82).toList.map (fun f => (f.name, f.type, f.offset)) = [("sector", 3, 0), ("bytes", 80, 1)] := by kernel_rfl
theorem part3 (w : World) (x : Int × Sec) : (part 3 (wcells x).toArray 0).run Try.prog w = .ok (.int .i64 x.1) w := run_part_int w Try.underlying3 (by simp [wcells])
set_option maxRecDepth 100000 in
theorem part80 (w : World) (x : Int × Sec) : (part 80 (wcells x).toArray 1).run Try.prog w = .ok (.agg (u8s x.2.1).toArray) w := by
  have hs : (sizeOf 80).run Try.prog w = .ok 256 w := size_of_info w sz80
  unfold part
  simp only [Sem.run_bind]
  have : (isAgg 80).run Try.prog w = .ok true w := Try.isAgg80 w
  simp only [this, Result.andThen_ok, if_true, Sem.run_bind, hs, Sem.run_pure]
  congr 2
  apply Array.ext'
  simp [wcells, sec_len, Array.toList_extract, List.extract]
  exact List.take_of_length_le (by rw [sec_len]; omega)
set_option maxRecDepth 100000 in
theorem eqIn82 (x y : Int × Sec) (w : World) : (Op.equalIn 10000 82 (.agg (wcells x).toArray) (.agg (wcells y).toArray)).run Try.prog w = .ok (decide (x = y)) w := by
  rw [run_equalIn_struct (d := 9999) w 82 _ _ (by kernel_rfl) (by kernel_rfl)]
  have hf := fields82
  obtain ⟨fs, hfs⟩ : ∃ fs, (Try.prog.fieldsOf 82).toList = fs := ⟨_, rfl⟩
  rw [hfs] at hf ⊢
  match fs, hf with
  | [f1, f2], hf =>
    simp only [List.map_cons, List.map_nil, List.cons.injEq, Prod.mk.injEq, and_true] at hf
    obtain ⟨⟨n1, t1, o1⟩, n2, t2, o2⟩ := hf
    have hb := run_equalIn_bytes (P := Try.prog) w 9997 Try.underlying80 Try.underlying5 sz5 x.2.1 y.2.1 x.2.2 y.2.2
    unfold Op.eqFields
    rw [n1, t1, o1, if_pos (by decide)]
    simp only [Sem.run_bind, part3, Result.andThen_ok, run_equalIn_int w 9998 3 .i64 .i64 _ _ Try.underlying3]
    by_cases h1 : x.1 = y.1
    · simp only [h1, beq_self_eq_true, Bool.not_true, Bool.false_eq_true, if_false]
      unfold Op.eqFields
      rw [n2, t2, o2, if_pos (by decide)]
      simp only [Sem.run_bind, part80, Result.andThen_ok, hb]
      have he : decide (x = y) = decide (x.2.1 = y.2.1) := decide_eq_decide.2 ⟨fun e => by rw [e], fun e => Prod.ext h1 (Subtype.ext e)⟩
      rw [he]
      by_cases h2 : x.2.1 = y.2.1 <;> simp [h2, Op.eqFields]
    · have : (x.1 == y.1) = false := beq_eq_false_iff_ne.2 h1
      simp only [this, Bool.not_false, if_true, Sem.run_pure]
      rw [decide_eq_false (fun e => h1 (by rw [e]))]
theorem neq82 (x y : Int × Sec) (w : World) : (binOp .neq 82 (.agg (wcells x).toArray) (.agg (wcells y).toArray)).run Try.prog w = .ok (.bool (!decide (x = y))) w := by
  rw [run_neq_struct, eqIn82]; rfl
theorem guard82 (op : BinOp) (x y : Operand) (xs ys : Array Value) (w : World) : (eqGuard op 82 x y (.agg xs) (.agg ys)).run Try.prog w = .ok () w := run_eqGuard_agg w op 82 x y xs ys (by kernel_rfl)
theorem neq80 (s t : Sec) (w : World) : (binOp .neq 80 (.agg (u8s s.1).toArray) (.agg (u8s t.1).toArray)).run Try.prog w = .ok (.bool (!decide (s = t))) w := by
  rw [run_neq_bytes w Try.underlying80 Try.underlying5 sz5 _ _ s.2 t.2]
  rw [show decide (s = t) = decide (s.1 = t.1) from decide_eq_decide.2 Subtype.ext_iff]
theorem guard80n (op : BinOp) (x y : Operand) (xs ys : Array Value) (w : World) : (eqGuard op 80 x y (.agg xs) (.agg ys)).run Try.prog w = .ok () w := run_eqGuard_agg w op 80 x y xs ys (by kernel_rfl)
end Go.Proofs.Yticgkbpmaakkiaa

namespace Go.Proofs.Yticgkbpmaakkiaa
open Go.RowKit

/-! ### read-only lists -/
section
variable {α : Type}
/-- The elements of l lie one behind the other from address a on, k cells each. -/
def AtL (w : World) (a : Option Addr) (k : Nat) (enc : α → List Value) (l : List α) : Prop := l = [] ∨ ∃ b o, a = some ⟨b, o, none⟩ ∧ ∀ (i : Nat) (x : α), l[i]? = some x → w.rangeAt b (o + i * k) (enc x)
theorem AtL.fr {w w' : World} {a : Option Addr} {k : Nat} {enc : α → List Value} {l : List α} (h : AtL w a k enc l) {S : Nat → Prop} (hf : Fr S w w') (hn : ∀ b, a.map (·.block) = some b → ¬ S b) : AtL w' a k enc l :=
  h.imp id fun ⟨b, o, e, q⟩ => ⟨b, o, e, fun i x hx j v hv => hf.cell (q i x hx j v hv) (hn b (by rw [e]; rfl))⟩
theorem AtL.non {w w' : World} {a : Option Addr} {k : Nat} {enc : α → List Value} {l : List α} (h : AtL w a k enc l) (hf : Fr Non w w') : AtL w' a k enc l := h.fr hf (fun _ _ h => h)
theorem AtL.get {w : World} {a : Option Addr} {k : Nat} {enc : α → List Value} {l : List α} (h : AtL w a k enc l) {i : Nat} {x : α} (hx : l[i]? = some x) : ∃ b o, a = some ⟨b, o, none⟩ ∧ w.rangeAt b (o + i * k) (enc x) := by
  rcases h with rfl | ⟨b, o, e, q⟩
  · cases hx
  · exact ⟨b, o, e, q i x hx⟩
theorem AtL.nil (w : World) (a : Option Addr) (k : Nat) (enc : α → List Value) : AtL w a k enc ([] : List α) := .inl rfl
theorem AtL.own {w : World} {e : TypeId} {k bytes : Nat} {enc : α → List Value} (E : ElemOk Try.prog e k bytes enc) {a : Option Addr} {n cap : Nat} {l : List α} (h : Own w e k enc (.slice a n cap) l) : AtL w a k enc l := by
  obtain ⟨a', cap', e', _, hn, hag⟩ := Own.shape h
  obtain ⟨rfl, rfl, rfl⟩ := Value.slice.inj e'
  cases a with
  | none => exact .inl (hn rfl)
  | some ad =>
    obtain ⟨g, rfl⟩ := hag ad rfl
    exact .inr ⟨g, 0, rfl, fun i x hx => by rw [Nat.zero_add]; exact Own.elem E h hx⟩
/-- Without its first elements. -/
theorem AtL.drop {w : World} {b o k : Nat} {enc : α → List Value} {l : List α} (h : AtL w (some ⟨b, o, none⟩) k enc l) (n : Nat) : AtL w (some ⟨b, o + n * k, none⟩) k enc (l.drop n) := by
  rcases h with rfl | ⟨b', o', e, q⟩
  · exact .inl (by simp)
  · cases e
    refine .inr ⟨b, o + n * k, rfl, fun i x hx => ?_⟩
    rw [List.getElem?_drop] at hx
    rw [show o + n * k + i * k = o + (n + i) * k by rw [Nat.add_mul]; omega]
    exact q _ _ hx
theorem AtL.take {w : World} {a : Option Addr} {k : Nat} {enc : α → List Value} {l : List α} (h : AtL w a k enc l) (n : Nat) : AtL w a k enc (l.take n) := by
  rcases h with rfl | ⟨b', o', e, q⟩
  · exact .inl (by simp)
  · refine .inr ⟨b', o', e, fun i x hx => ?_⟩
    rw [List.getElem?_take] at hx
    split at hx
    · exact q i x hx
    · cases hx
end

theorem take_eq_of {α : Type} {l m : List α} {k : Nat} {y z : α} (h : l.take k = m.take k) (hy : l[k]? = some y) (hz : m[k]? = some z) (e : y = z) : l.take (k + 1) = m.take (k + 1) := by
  rw [List.take_add_one, List.take_add_one, h, hy, hz, e]

set_option maxRecDepth 100000 in
theorem Equal52 (w : World) (a : Option Addr) (cap : Nat) (l : List (Int × Sec)) (a2 : Option Addr) (cap2 : Nat) (m : List (Int × Sec)) (hl : l.length ≤ 1000000) (h : AtL w a 257 wcells l) (h2 : AtL w a2 257 wcells m) :
    Calls Try.prog 52 #[.slice a l.length cap, .slice a2 m.length cap2] w fun e w' => e = .returned (.bool (decide (l = m))) ∧ Fr Non w w' := by
  by_cases hlen : l.length = m.length
  · rw [← hlen]
    have HE := Lib.hid hlen
    have H := Lib.hid h
    have H2 := Lib.hid h2
    have HL := Lib.hid hl
    clear hlen h h2 hl
    go_enter Try.func52, Try.ntmps52
    go_wp2
    go_loopw [13] (fun i wr => ∃ k : Nat, i = .int .i64 k ∧ k ≤ l.length ∧ l.take k = m.take k ∧ Fr Non w wr) (fun i _ => l.length - (intOf i).toNat)
    case atStart => exact ⟨0, rfl, Nat.zero_le _, by simp, Fr.refl _ _⟩
    case round =>
      obtain ⟨k, rfl, hk, hno, hF⟩ := hrel
      have HF := Lib.hid hF
      have HNO := Lib.hid hno
      clear hF hno
      by_cases hlt : k < l.length
      · obtain ⟨y, hy⟩ : ∃ y, l[k]? = some y := ⟨_, List.getElem?_eq_getElem hlt⟩
        obtain ⟨z, hz⟩ : ∃ z, m[k]? = some z := ⟨_, List.getElem?_eq_getElem (by have := HE.out; omega)⟩
        obtain ⟨b, o, rfl, hr⟩ := (H.out.non HF.out).get hy
        obtain ⟨b2, o2, rfl, hr2⟩ := (H2.out.non HF.out).get hz
        have HY := Lib.hid (show wr.drew.rangeAt b (o + k * 257) (wcells y) from hr)
        have HZ := Lib.hid (show wr.drew.rangeAt b2 (o2 + k * 257) (wcells z) from hr2)
        have HYY := Lib.hid (And.intro hy hz)
        have hk9 : (k : Int) ≤ 1000000 := by have := HL.out; omega
        have HLT := Lib.hid hlt
        clear hr hr2 hy hz
        go_wp2_with fail
        refine rc (fun W : World => W.rangeAt b (o + k * 257) (wcells y) ∧ W.rangeAt b2 (o2 + k * 257) (wcells z)) 8 (by kernel_rfl) ?_
        have hS : (fun W : World => W.rangeAt b (o + k * 257) (wcells y) ∧ W.rangeAt b2 (o2 + k * 257) (wcells z)) wr.drew := ⟨HY.out, HZ.out⟩
        refine tp (i := 0) (v := .slice (some ⟨b, o, none⟩) l.length cap) rfl (by kernel_rfl) (fun _ _ _ h => h) rfl (fun W0 => r_move rfl rfl) (.inr hS) ?_
        simp only [Act.put, List.setIfInBounds_toArray, List.set_cons_zero, List.set_cons_succ]
        refine tp (i := 1) (v := .int .i64 (k : Int)) rfl (by kernel_rfl) (fun _ _ _ h => h) rfl (fun W0 => r_move rfl rfl) (.inr hS) ?_
        simp only [Act.put, List.setIfInBounds_toArray, List.set_cons_zero, List.set_cons_succ]
        refine tp (i := 2) (v := .pointer (some ⟨b, o + k * 257, none⟩)) rfl (by kernel_rfl) (fun _ _ _ h => h) rfl (fun W0 => by unfold RunV; go_simp) (.inr hS) ?_
        simp only [Act.put, List.setIfInBounds_toArray, List.set_cons_zero, List.set_cons_succ]
        refine tp (i := 4) (v := .slice (some ⟨b2, o2, none⟩) l.length cap2) rfl (by kernel_rfl) (fun _ _ _ h => h) rfl (fun W0 => r_move rfl rfl) (.inr hS) ?_
        simp only [Act.put, List.setIfInBounds_toArray, List.set_cons_zero, List.set_cons_succ]
        refine tp (i := 5) (v := .int .i64 (k : Int)) rfl (by kernel_rfl) (fun _ _ _ h => h) rfl (fun W0 => r_move rfl rfl) (.inr hS) ?_
        simp only [Act.put, List.setIfInBounds_toArray, List.set_cons_zero, List.set_cons_succ]
        refine tp (i := 6) (v := .pointer (some ⟨b2, o2 + k * 257, none⟩)) rfl (by kernel_rfl) (fun _ _ _ h => h) rfl (fun W0 => by unfold RunV; go_simp) (.inr hS) ?_
        simp only [Act.put, List.setIfInBounds_toArray, List.set_cons_zero, List.set_cons_succ]
        refine tc (i := 3) (v := .agg (wcells y).toArray) rfl 8 (by kernel_rfl) (fun _ _ _ h => h) rfl (fun W0 hw => r_load (b := b) (i := o + k * 257) rfl rfl hw.1 Try.underlying82 rfl (by rw [sz82, wcells_length])) hS ?_
        simp only [Act.put, List.setIfInBounds_toArray, List.set_cons_zero, List.set_cons_succ]
        refine tc (i := 7) (v := .agg (wcells z).toArray) rfl 8 (by kernel_rfl) (fun _ _ _ h => h) rfl (fun W0 hw => r_load (b := b2) (i := o2 + k * 257) rfl rfl hw.2 Try.underlying82 rfl (by rw [sz82, wcells_length])) hS ?_
        simp only [Act.put, List.setIfInBounds_toArray, List.set_cons_zero, List.set_cons_succ]
        refine oc2 (i := 8) (v := .bool (!decide (y = z))) rfl (by kernel_rfl) rfl (by kernel_rfl) (r_eql rfl rfl rfl (guard82 _ _ _ _ _ _) (neq82 y z _)) ?_
        simp only [Act.put, List.setIfInBounds_toArray, List.set_cons_zero, List.set_cons_succ]
        refine dc (by kernel_rfl) ?_
        clear hS
        by_cases e : y = z
        · have e1 : decide (y = z) = true := decide_eq_true e
          rw [e1]
          clear e1
          have e2 := Lib.hid (take_eq_of HNO.out HYY.out.1 HYY.out.2 e)
          clear e
          go_wp2
          go_roundw
          case rel => exact ⟨k + 1, by go_num, by have := HLT.out; omega, e2.out, HF.out.drew⟩
          case measure => have := HLT.out; simp [intOf] <;> omega
        · have e1 : decide (y = z) = false := decide_eq_false e
          rw [e1]
          clear e1
          have e2 : Hid (l ≠ m) := fun h => e (by have h1 := HYY.out.1; have h2 := HYY.out.2; rw [h] at h1; rw [h1] at h2; exact Option.some.inj h2)
          clear e
          go_wp2
          go_ret
          exact ⟨by rw [decide_eq_false e2.out]; rfl, HF.out.drew⟩
      · obtain rfl : k = l.length := by omega
        rw [List.take_length, HE.out, List.take_length] at HNO
        go_wp2
        go_ret
        exact ⟨by rw [decide_eq_true HNO.out]; rfl, HF.out⟩
  · have hne : Hid (l ≠ m) := fun e => hlen (by rw [e])
    have e1 : ((l.length : Int) == (m.length : Int)) = false := by simp; omega
    clear hlen h h2 hl
    go_enter Try.func52, Try.ntmps52
    go_wp2
    go_ret
    exact ⟨by rw [decide_eq_false hne.out]; rfl, Fr.refl _ _⟩
end Go.Proofs.Yticgkbpmaakkiaa
