/-
  before: the order of identities, as the law asks it.
-/
import Derived.Test.YtfemaeacmnhdlaaVJ
namespace Go.Proofs.Ytfemaeacmnhdlaa
open Go.RowKit Go.Sort

theorem bytesLess_eq : ∀ a b : List UInt8, Op.bytesLess a b = decide (Lib.compareBytes a b < 0)
  | [], [] => by simp [Op.bytesLess, Lib.compareBytes]
  | _ :: _, [] => by simp [Op.bytesLess, Lib.compareBytes]
  | [], _ :: _ => by simp [Op.bytesLess, Lib.compareBytes]
  | a :: x, b :: y => by
    have ih := bytesLess_eq x y
    simp only [Op.bytesLess, Lib.compareBytes, ih]
    by_cases p : a < b
    · simp [p]
    · by_cases q : b < a
      · have hne : ¬ a = b := fun e => by subst e; exact p q
        simp [p, q, hne]
      · have he : a = b := by
          rw [UInt8.lt_iff_toNat_lt] at p q
          exact UInt8.toNat_inj.1 (by omega)
        simp [p, q, he]
theorem r_strLss {P : Program} {o : Oper} {a : Act} {w : World} {t ty : TypeId} {x y : Operand} {i j : Id} (ho : o.op = .binOp .lss t x y ty) (ht : P.underlying t = some .string) (hx : a.eval x = .string ⟨i.1.toArray⟩) (hy : a.eval y = .string ⟨j.1.toArray⟩) : RunV P o a w (.bool (ltOf cmpId i j)) w := by
  unfold RunV execOp
  simp only [ho, hx, hy]
  go_simp
  rw [bytesLess_eq]
  rfl
theorem str_of {P : Program} {w : World} {src e dst : TypeId} (hs : P.underlying src = some (.slice e)) (he : P.underlying e = some (.int .u8)) (hd : P.underlying dst = some .string) {b o n cap : Nat} {l : List UInt8} (hl : l.length = n) (hr : w.rangeAt b o (u8s l)) :
    (convert src dst (.slice (some ⟨b, o, none⟩) n cap)).run P w = .ok (.string ⟨l.toArray⟩) w := by
  subst hl
  rw [run_convert_bytes_arg w src e hs he b o l.length cap (l.map fun b => (b.toNat : Int)) (by simp) (fun i hi => by
    rw [hr i (.int .u8 (l[i].toNat : Int)) (by simp [u8s, hi])]; simp [hi]) dst hd]
  congr 2
  unfold strOfNums
  simp only [List.map_map]
  congr 2
  conv => rhs; rw [← List.map_id l]
  exact List.map_congr_left fun x _ => by simp

set_option maxRecDepth 100000 in
theorem before_c (W : World) (x y : Id) : Calls Try.prog 82 #[.agg (idC x).toArray, .agg (idC y).toArray] W fun e w' => e = .returned (.bool (ltOf cmpId x y)) ∧ Fr Non W w' := by
  have hb1 := ((Fr.refl Non (W.alloc (.cells (idC x).toArray 31))).alloc (.cells (idC y).toArray 31)).keep (heap_alloc_new W (.cells (idC x).toArray 31)) (fun h => h)
  have hb2 := heap_alloc_new (W.alloc (.cells (idC x).toArray 31)) (.cells (idC y).toArray 31)
  rw [World.size_alloc] at hb2
  have hF2 : Fr Non W ((W.alloc (.cells (idC x).toArray 31)).alloc (.cells (idC y).toArray 31)) := ((Fr.refl Non W).alloc _).alloc _
  obtain ⟨w2, hw2⟩ : ∃ w2, (W.alloc (.cells (idC x).toArray 31)).alloc (.cells (idC y).toArray 31) = w2 := ⟨_, rfl⟩
  rw [hw2] at hb1 hb2 hF2
  have HX := Lib.hid (rangeAt_of (w := w2.drew) hb1 0 (idC x) (by simp))
  have HY := Lib.hid (rangeAt_of (w := w2.drew) hb2 0 (idC y) (by simp))
  have HF2 := Lib.hid hF2
  clear hb1 hb2 hF2
  go_enter Try.func82, Try.ntmps82
  go_wp2_with (first
    | (guard_target =~ wpList _ _ _ (⟨some 2, Op.box 31 _, _, _, _, _⟩ :: _) _ _; refine wl rfl (r_boxA (cs := (idC x).toArray) rfl rfl) ?_)
    | (guard_target =~ wpList _ _ _ (⟨some 3, Op.box 31 _, _, _, _, _⟩ :: _) _ _; refine wl rfl (r_boxA (cs := (idC y).toArray) rfl rfl) ?_; rw [hw2])
    | fail)
  clear hw2
  refine rc (fun V : World => V.rangeAt W.heap.size 0 (idC x) ∧ V.rangeAt (W.heap.size + 1) 0 (idC y)) 4 (by kernel_rfl) ?_
  have hS : (fun V : World => V.rangeAt W.heap.size 0 (idC x) ∧ V.rangeAt (W.heap.size + 1) 0 (idC y)) w2.drew := ⟨HX.out, HY.out⟩
  refine tp (i := 0) (v := .slice (some ⟨W.heap.size, 0, none⟩) 32 32) rfl (by kernel_rfl) (fun _ _ _ h => h) rfl (fun W0 => by unfold RunV; go_simp) (.inr hS) ?_
  simp only [Act.put, List.setIfInBounds_toArray, List.set_cons_zero, List.set_cons_succ]
  refine tp (i := 2) (v := .slice (some ⟨W.heap.size + 1, 0, none⟩) 32 32) rfl (by kernel_rfl) (fun _ _ _ h => h) rfl (fun W0 => by unfold RunV; go_simp) (.inr hS) ?_
  simp only [Act.put, List.setIfInBounds_toArray, List.set_cons_zero, List.set_cons_succ]
  refine tc (i := 1) (v := .string ⟨x.1.toArray⟩) rfl 8 (by kernel_rfl) (fun _ _ _ h => h) rfl (fun W0 hw => r_convert rfl rfl (str_of Try.underlying55 Try.underlying5 Try.underlying9 x.2 hw.1)) hS ?_
  simp only [Act.put, List.setIfInBounds_toArray, List.set_cons_zero, List.set_cons_succ]
  refine tc (i := 3) (v := .string ⟨y.1.toArray⟩) rfl 8 (by kernel_rfl) (fun _ _ _ h => h) rfl (fun W0 hw => r_convert rfl rfl (str_of Try.underlying55 Try.underlying5 Try.underlying9 y.2 hw.2)) hS ?_
  simp only [Act.put, List.setIfInBounds_toArray, List.set_cons_zero, List.set_cons_succ]
  refine oc2 (i := 4) (v := .bool (ltOf cmpId x y)) rfl (by kernel_rfl) rfl (by kernel_rfl) (r_strLss rfl Try.underlying9 rfl rfl) ?_
  simp only [Act.put, List.setIfInBounds_toArray, List.set_cons_zero, List.set_cons_succ]
  refine tp (i := 5) (v := .bool (ltOf cmpId x y)) rfl (by kernel_rfl) (fun _ _ _ h => h) rfl (fun W0 => r_assign rfl rfl) (.inl (by kernel_rfl)) ?_
  simp only [Act.put, List.setIfInBounds_toArray, List.set_cons_zero, List.set_cons_succ]
  refine dc (by kernel_rfl) ?_
  go_wp2_with fail
  go_ret
  exact ⟨rfl, HF2.out.drew⟩
end Go.Proofs.Ytfemaeacmnhdlaa
