/-
  The order of identities: bytes.Compare, the closure that the sort is handed.
-/
import Derived.Test.YtfemaeacmnhdlaaV8
import Derived.Lib.Bytealg
import Derived.Lib.UnsafeStr
import Derived.Sort.Grow
namespace Go.Proofs.Ytfemaeacmnhdlaa
open Go.RowKit Go.Sort

theorem run_compare {P : Program} (l m : List UInt8) (b o c b2 o2 c2 : Nat) (w : World) (h : w.rangeAt b o (u8s l)) (h2 : w.rangeAt b2 o2 (u8s m)) :
    (Extern.BytealgCompare.compare #[.slice (some ⟨b, o, none⟩) l.length c, .slice (some ⟨b2, o2, none⟩) m.length c2]).run P w = .ok (.int .i64 (Lib.compareBytes l m)) w := by
  have key : ∀ {b o : Nat} {l : List UInt8}, w.rangeAt b o (u8s l) → (Extern.Bytes.loadBytes ⟨b, o, none⟩ l.length .empty).run P w = .ok ⟨l.toArray⟩ w := fun {b o l} h => by
    have hh : ∀ (j : Nat) (x : UInt8), l[j]? = some x → w.cell? ((⟨b, o, none⟩ : Addr).add j) = some (.int .u8 (x.toNat : Int)) := fun j x hx => by
      rw [Addr.add_mid]; exact h j _ (by rw [u8s_get, hx]; rfl)
    have hz : ∀ (l : List UInt8) (a : Addr) (acc : ByteArray), (∀ (j : Nat) (x : UInt8), l[j]? = some x → w.cell? (a.add j) = some (.int .u8 (x.toNat : Int))) → (Extern.Bytes.loadBytes a l.length acc).run P w = .ok ⟨acc.data ++ l.toArray⟩ w := by
      intro l
      induction l with
      | nil => intro a acc _; simp [Extern.Bytes.loadBytes]
      | cons x t ih =>
        intro a acc hc
        have h0 : w.cell? a = some (.int .u8 (x.toNat : Int)) := by
          have := hc 0 x rfl
          simpa [Addr.add] using this
        have ih' := ih (a.add 1) (acc.push x) (fun j y hy => by
          have := hc (j + 1) y (by simpa using hy)
          have e : (a.add 1).add j = a.add (j + 1) := by
            unfold Addr.add
            by_cases hj : j = 0
            · subst hj; simp
            · simp [hj]; omega
          rw [e]; exact this)
        simp only [List.length_cons, Extern.Bytes.loadBytes, Sem.run_bind]
        have hl : (load a).run P w = .ok (.int .u8 (x.toNat : Int)) w := by simp [h0]
        rw [hl]
        simp only [Result.andThen]
        have ex : ((x.toNat : Int).toNat.toUInt8) = x := by simp
        rw [ex, ih']
        congr 1
        show ByteArray.mk _ = ByteArray.mk _
        congr 1
        apply Array.ext'
        simp [ByteArray.push]
    have := hz l ⟨b, o, none⟩ .empty hh
    rw [this]
    congr 1
    show ByteArray.mk _ = ByteArray.mk _
    congr 1
    simp [ByteArray.empty, ByteArray.emptyWithCapacity]
    rfl
  change Sem.run P (do pure (goInt (Extern.BytealgCompare.cmp (← Extern.Bytes.bytesOf (.slice (some ⟨b, o, none⟩) l.length c)) (← Extern.Bytes.bytesOf (.slice (some ⟨b2, o2, none⟩) m.length c2))))) w = _
  simp only [Extern.Bytes.bytesOf, Sem.run_bind, Sem.run_pure, key h, key h2, Result.andThen]
  rw [Lib.cmp_eq]
  rfl

set_option maxRecDepth 100000 in
theorem Compare87 (w : World) (l m : List UInt8) (b o c b2 o2 c2 : Nat) (h : w.rangeAt b o (u8s l)) (h2 : w.rangeAt b2 o2 (u8s m)) :
    Calls Try.prog 87 #[.slice (some ⟨b, o, none⟩) l.length c, .slice (some ⟨b2, o2, none⟩) m.length c2] w fun e w' => e = .returned (.int .i64 (Lib.compareBytes l m)) ∧ w = w' := by
  have HR := Lib.hid (run_compare (P := Try.prog) l m b o c b2 o2 c2 w h h2)
  clear h h2
  go_enter Try.func87, Try.ntmps87
  go_wp2
  rw [run_callFunc_extern Try.func109 (by kernel_rfl) (by kernel_rfl) (by kernel_rfl) (e := Extern.BytealgCompare.compare) (by kernel_rfl), HR.out]
  simp only [Result.andThen]
  rw [Oper.upon_value]
  go_wp2
  go_ret
  exact ⟨rfl, rfl⟩

def cmpId (x y : Id) : Int := Lib.compareBytes x.1 y.1
set_option maxRecDepth 100000 in
theorem cmp86 (x y : Id) (W : World) : Calls Try.prog 86 #[.agg (idC x).toArray, .agg (idC y).toArray] W fun e w' => e = .returned (.int .i64 (cmpId x y)) ∧ ∃ q os', w' = grow (W.drewN q) os' := by
  have hb1 := ((Fr.refl Non (W.alloc (.cells (idC x).toArray 31))).alloc (.cells (idC y).toArray 31)).keep (heap_alloc_new W (.cells (idC x).toArray 31)) (fun h => h)
  have hb2 := heap_alloc_new (W.alloc (.cells (idC x).toArray 31)) (.cells (idC y).toArray 31)
  rw [World.size_alloc] at hb2
  obtain ⟨w2, hw2⟩ : ∃ w2, (W.alloc (.cells (idC x).toArray 31)).alloc (.cells (idC y).toArray 31) = w2 := ⟨_, rfl⟩
  rw [hw2] at hb1 hb2
  have hc := Compare87 w2.drew x.1 y.1 W.heap.size 0 32 (W.heap.size + 1) 0 32 (rangeAt_of (w := w2.drew) hb1 0 (idC x) (by simp)) (rangeAt_of (w := w2.drew) hb2 0 (idC y) (by simp))
  rw [x.2, y.2] at hc
  have HC := Lib.hid hc
  have HW2 := Lib.hid hw2
  clear hc hb1 hb2
  go_enter Try.func86, Try.ntmps86
  go_wp2_with (first
    | (guard_target =~ wpList _ _ _ (⟨some 2, Op.box 31 _, _, _, _, _⟩ :: _) _ _; refine wl rfl (r_boxA (cs := (idC x).toArray) rfl rfl) ?_)
    | (guard_target =~ wpList _ _ _ (⟨some 3, Op.box 31 _, _, _, _, _⟩ :: _) _ _; refine wl rfl (r_boxA (cs := (idC y).toArray) rfl rfl) ?_; rw [hw2])
    | fail)
  clear hw2
  refine rc (fun _ : World => True) 3 (by kernel_rfl) ?_
  have hS : (fun _ : World => True) w2.drew := trivial
  refine tp (i := 0) (v := .slice (some ⟨W.heap.size, 0, none⟩) 32 32) rfl (by kernel_rfl) (fun _ _ _ h => h) rfl (fun W0 => by unfold RunV; go_simp) (.inr hS) ?_
  simp only [Act.put, List.setIfInBounds_toArray, List.set_cons_zero, List.set_cons_succ]
  refine tp (i := 1) (v := .slice (some ⟨W.heap.size + 1, 0, none⟩) 32 32) rfl (by kernel_rfl) (fun _ _ _ h => h) rfl (fun W0 => by unfold RunV; go_simp) (.inr hS) ?_
  simp only [Act.put, List.setIfInBounds_toArray, List.set_cons_zero, List.set_cons_succ]
  refine oc1 (i := 2) rfl (by kernel_rfl) rfl ?_
  unfold Oper.wp
  go_simp
  refine HC.out.mono ?_
  rintro e w3 ⟨rfl, rfl⟩
  refine oc2 (i := 3) (v := .int .i64 (Lib.compareBytes x.1 y.1)) rfl (by kernel_rfl) rfl (by kernel_rfl) (r_assign rfl rfl) ?_
  simp only [Act.put, List.setIfInBounds_toArray, List.set_cons_zero, List.set_cons_succ]
  refine dc (by kernel_rfl) ?_
  go_wp2
  go_ret
  refine ⟨rfl, 1, #[.cells (idC x).toArray 31, .cells (idC y).toArray 31], ?_⟩
  rw [← HW2.out, alloc_eq_grow, alloc_eq_grow, grow_grow]
  rfl
end Go.Proofs.Ytfemaeacmnhdlaa
