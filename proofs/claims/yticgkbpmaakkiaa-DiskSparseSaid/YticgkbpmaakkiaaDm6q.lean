/-
  DiskNil: the walk.
-/
import Derived.Test.YticgkbpmaakkiaaDm4toDm5q
import Derived.Test.YticgkbpmaakkiaaOp2toRg3q
namespace Go.Proofs.Yticgkbpmaakkiaa
open Go.RowKit Go.Shelf

attribute [local go_sem] Oper.semAt_some

theorem r_neqK {P : Program} {o : Oper} {a : Act} {w : World} {t ty : TypeId} {x y : Operand} {q : IntKind} {b c : Int} {d : Bool} (ho : o.op = .binOp .neq t x y ty) (ht : P.underlying t = some (.int q)) (hx : a.eval x = .int q b) (hy : a.eval y = .int q c) (hd : (!(b == c)) = d) : RunV P o a w (.bool d) w := by
  subst hd
  unfold RunV execOp
  simp only [ho, hx, hy]
  go_simp
  rfl
theorem r_eqlK {P : Program} {o : Oper} {a : Act} {w : World} {t ty : TypeId} {x y : Operand} {q : IntKind} {b c : Int} {d : Bool} (ho : o.op = .binOp .eql t x y ty) (ht : P.underlying t = some (.int q)) (hx : a.eval x = .int q b) (hy : a.eval y = .int q c) (hd : (b == c) = d) : RunV P o a w (.bool d) w := by
  subst hd
  unfold RunV execOp
  simp only [ho, hx, hy]
  go_simp
theorem r_strEql_same {P : Program} {o : Oper} {a : Act} {w : World} {t ty : TypeId} {x y : Operand} {l : ByteArray} (ho : o.op = .binOp .eql t x y ty) (ht : P.underlying t = some .string) (hx : a.eval x = .string l) (hy : a.eval y = .string l) : RunV P o a w (.bool true) w := by
  unfold RunV execOp
  simp only [ho, hx, hy]
  go_simp

set_option maxRecDepth 100000 in
theorem Sparse_c (w : World) (d : Option Addr) :
    Calls Try.prog 34 #[.pointer d] w fun e w' => e = .returned (.func (.func 54) #[] #[.pointer (some ⟨w.heap.size, 0, none⟩)]) ∧ w' = w.alloc (.cells #[.pointer d] 23) := by
  go_enter Try.func34, Try.ntmps34
  go_wp2
  go_ret
  exact ⟨rfl, rfl⟩

set_option maxRecDepth 100000 in
theorem sparse_nil_in (l Bs : Nat) (W : World) (hBs : W.cell? ⟨Bs, 0, none⟩ = some (.pointer none)) :
    CallsIn Fence.wide 2 Try.prog 54 #[.func (.yield l) #[] #[], .pointer (some ⟨Bs, 0, none⟩)] W fun e W' => (∃ v, e = .returned v) ∧ W = W' := by
  refine callsIn_of_wp Try.func54 rfl trivial ?_ rfl
  simp only [Try.ntmps54, List.size_toArray, List.length_cons, List.length_nil, Nat.reduceAdd, Nat.reduceSub, Array.replicate_succ, Array.replicate_zero, List.push_toArray, List.append_toArray, List.nil_append, List.cons_append]
  gi_wp2
  refine bodyPost_ret (results_none rfl _ _ _) rfl ?_
  exact ⟨⟨_, rfl⟩, rfl⟩
theorem sparse_nil_stops (Bs : Nat) (w : World) (hBs : Bs < w.heap.size) (hc : w.cell? ⟨Bs, 0, none⟩ = some (.pointer none)) :
    SeqStopsK Fence.wide 2 Try.prog 54 #[.pointer (some ⟨Bs, 0, none⟩)] (fun n : Int => #[.int .i64 n]) (Below w.heap.size) (fun ys => ys = []) (fun _ => False) 0 w := fun l J Jx W hW _ _ hY h0 => by
  have hc' := (hW.cell (p := ⟨Bs, 0, none⟩) hBs).trans hc
  refine (sparse_nil_in l Bs W hc').mono fun e W' ⟨he, hw⟩ => ⟨he, .inl ⟨_, rfl, ?_⟩⟩
  rw [← hw]; exact h0

theorem r_addK {P : Program} {o : Oper} {a : Act} {w : World} {t ty : TypeId} {x y : Operand} {q : IntKind} {b c : Int} (ho : o.op = .binOp .add t x y ty) (ht : P.underlying t = some (.int q)) (hx : a.eval x = .int q b) (hy : a.eval y = .int q c) : RunV P o a w (.int q (q.wrap (b + c))) w := by
  unfold RunV execOp
  simp only [ho, hx, hy]
  go_simp
theorem r_storeK {P : Program} {o : Oper} {a : Act} {w : World} {t : TypeId} {x y : Operand} {q : IntKind} {n : Int} (ho : o.op = .store t x y) {p : Addr} {v0 : Value} (hx : a.eval x = .pointer (some p)) (hy : a.eval y = .int q n) (hs : (sizeOf t).run P w = .ok 1 w) (hc : w.cell? p = some v0) (hf : w.frozen? p = false) : RunU P o a w (w.setCell p (.int q n)) := by
  unfold RunU execOp
  simp only [ho, hx, hy]
  go_simp

theorem results_cell1 {P : Program} {fn : Func} {p : Tmp} {ty : TypeId} (h : fn.results = #[.cell p ty]) (tmps : Array Value) (w : World) (g : Nat) (v : Value) (hp : tmps.getD p undef = .pointer (some ⟨g, 0, none⟩)) (hc : w.cell? ⟨g, 0, none⟩ = some v) (hagg : (isAgg ty).run P w = .ok false w) :
    (results fn tmps).run P w = .ok v w := by
  have hp' : tmps[p]?.getD undef = .pointer (some ⟨g, 0, none⟩) := by simpa using hp
  simp [results, h, hp', asAddr, loadVar, hagg, hc]

def nilD (s : Sec) : Dsk := { (Dsk.fresh 2).count with pend := (Dsk.fresh 2).pend ++ [(0, s)] }
theorem nilD_see (s : Sec) : (nilD s).see 0 = s := rfl

set_option maxRecDepth 100000 in
set_option maxHeartbeats 4000000 in
theorem Nil_walk (w : World) (o : OpS) (ca : Option Addr) (cl cc : Nat) :
    Calls Try.prog 10 #[.agg (opL o (.slice ca cl cc)).toArray] w fun e w' => e = .returned (.bool true) ∧ Fr Non w w' := by
  obtain ⟨s, hs⟩ : ∃ s : Sec, s = ⟨bytesL o.first o.step, bytesL_length _ _⟩ := ⟨_, rfl⟩
  have hs1 : bytesL o.first o.step = s.1 := by rw [hs]
  have hb1 := ((Fr.refl Non _).alloc (.cells #[.bool false] 4)).keep (heap_alloc_new w (.cells (opL o (.slice ca cl cc)).toArray 60)) (fun h => h)
  have hb2 := heap_alloc_new (w.alloc (.cells (opL o (.slice ca cl cc)).toArray 60)) (.cells #[.bool false] 4)
  rw [World.size_alloc] at hb2
  have HF0 : Hid (Fr Non w ((w.alloc (.cells (opL o (.slice ca cl cc)).toArray 60)).alloc (.cells #[.bool false] 4))) := ((Fr.refl _ w).alloc _).alloc _
  obtain ⟨w1, hw1⟩ : ∃ w1, (w.alloc (.cells (opL o (.slice ca cl cc)).toArray 60)).alloc (.cells #[.bool false] 4) = w1 := ⟨_, rfl⟩
  rw [hw1] at hb1 hb2 HF0
  have HB1 := Lib.hid hb1
  have HB2 := Lib.hid hb2
  have HS := Lib.hid hs1
  clear hb1 hb2 hs1 hs
  refine calls_marks Try.func10 rfl ?_
  simp only [Try.ntmps10, List.size_toArray, List.length_cons, List.length_nil, Nat.reduceAdd, Nat.reduceSub, Array.replicate_succ, Array.replicate_zero, List.push_toArray, List.append_toArray, List.nil_append, List.cons_append]
  go_wp2_with (first
    | (guard_target =~ wpList _ _ _ (⟨_, Op.box 60 _, _, _, _, _⟩ :: _) _ _; refine wl rfl (r_boxA rfl rfl) ?_; simp only [Act.put, List.setIfInBounds_toArray, List.set_cons_zero, List.set_cons_succ])
    | (guard_target =~ wpList _ _ _ (⟨_, Op.alloc 4, _, _, _, _⟩ :: _) _ _; refine wl rfl (r_alloc (z := .bool false) rfl (zero4 _)) ?_; simp only [Act.put, List.setIfInBounds_toArray, List.set_cons_zero, List.set_cons_succ]; simp only [Value.cells]; rw [hw1])
    | (go_at_call 11; refine (known_c w1).mono ?_; rintro e w3 ⟨rfl, hF3⟩; have HF3 := Lib.hid hF3; have q1 := cellOf (hF3.keep HB1.out (fun h => h)) 1 rfl; have q2 := cellOf (hF3.keep HB1.out (fun h => h)) 2 rfl; clear hF3)
    | (go_at_call 18; refine (SetLimit_nil _ _).mono ?_; rintro e wx ⟨rfl, rfl⟩)
    | (go_at_call 24; refine (Fail_nil _).mono ?_; rintro e wx ⟨rfl, rfl⟩)
    | (go_at_call 17; refine (Read_nil _ _).mono ?_; rintro e wx ⟨rfl, rfl⟩)
    | fail)
  clear q1 q2
  have HB1' := Lib.hid (HF3.out.keep HB1.out (fun h => h))
  have HB2' := Lib.hid (HF3.out.keep HB2.out (fun h => h))
  have HF03 : Hid (Fr Non w w3) := HF0.out.trans HF3.out (fun _ _ h => h)
  clear hw1
  have HO1 : Hid (∀ W, Fr Non w3 W → W.cell? ⟨w.heap.size, 1, none⟩ = some (.int .i64 o.sec)) := fun W hW => cellOf (hW.keep HB1'.out (fun h => h)) 1 rfl
  have HO2 : Hid (∀ W, Fr Non w3 W → W.cell? ⟨w.heap.size, 2, none⟩ = some (.int .i64 o.at')) := fun W hW => cellOf (hW.keep HB1'.out (fun h => h)) 2 rfl
  have HO3 : Hid (∀ W, Fr Non w3 W → W.cell? ⟨w.heap.size, 3, none⟩ = some (.int .u8 o.first.toNat)) := fun W hW => cellOf (hW.keep HB1'.out (fun h => h)) 3 rfl
  have HO4 : Hid (∀ W, Fr Non w3 W → W.cell? ⟨w.heap.size, 4, none⟩ = some (.int .u8 o.step.toNat)) := fun W hW => cellOf (hW.keep HB1'.out (fun h => h)) 4 rfl
  have HO5 : Hid (∀ W, Fr Non w3 W → W.cell? ⟨w.heap.size, 5, none⟩ = some (.slice ca cl cc)) := fun W hW => cellOf (hW.keep HB1'.out (fun h => h)) 5 rfl
  refine rcn (fun W : World => Fr Non w3 W) 41 (by kernel_rfl) ?_
  have hS : (fun W : World => Fr Non w3 W) w3.drew := (Fr.refl _ w3).drew
  have HFX : Hid (Fr Non w3 w3.drew) := (Fr.refl _ w3).drew
  refine tp (i := 0) (v := .slice none 0 0) rfl (by kernel_rfl) (fun _ _ _ h => h) rfl (fun W0 => r_move rfl rfl) (.inr hS) ?_
  simp only [Act.put, List.setIfInBounds_toArray, List.set_cons_zero, List.set_cons_succ]
  refine tp (i := 1) (v := .int .i64 0) rfl (by kernel_rfl) (fun _ _ _ h => h) rfl (fun W0 => by unfold RunV; go_simp) (.inr hS) ?_
  simp only [Act.put, List.setIfInBounds_toArray, List.set_cons_zero, List.set_cons_succ]
  refine tp (i := 2) (v := .bool false) rfl (by kernel_rfl) (fun _ _ _ h => h) rfl (fun W0 => r_neqI rfl Try.underlying3 rfl rfl (by simp)) (.inr hS) ?_
  simp only [Act.put, List.setIfInBounds_toArray, List.set_cons_zero, List.set_cons_succ]
  refine tp (i := 3) (v := .bool false) rfl (by kernel_rfl) (fun _ _ _ h => h) rfl (fun W0 => by unfold RunV; go_simp) (.inr hS) ?_
  simp only [Act.put, List.setIfInBounds_toArray, List.set_cons_zero, List.set_cons_succ]
  refine tpg (i := 4) (v := .int .i64 1) rfl (by kernel_rfl) (fun _ _ _ h => h) rfl (fun W0 => r_move rfl rfl) (.inr hS) ?_
  simp only [Act.put, List.setIfInBounds_toArray, List.set_cons_zero, List.set_cons_succ]
  refine tpg (i := 5) (v := .bool false) rfl (by kernel_rfl) (fun _ _ _ h => h) rfl (fun W0 => r_neqK rfl Try.underlying24 rfl rfl (by simp)) (.inr hS) ?_
  simp only [Act.put, List.setIfInBounds_toArray, List.set_cons_zero, List.set_cons_succ]
  refine tp (i := 6) (v := .bool false) rfl (by kernel_rfl) (fun _ _ _ h => h) rfl (fun W0 => r_pick (b := false) rfl rfl rfl) (.inr hS) ?_
  simp only [Act.put, List.setIfInBounds_toArray, List.set_cons_zero, List.set_cons_succ]
  refine tp (i := 7) (v := .bool false) rfl (by kernel_rfl) (fun _ _ _ h => h) rfl (fun W0 => by unfold RunV; go_simp) (.inr hS) ?_
  simp only [Act.put, List.setIfInBounds_toArray, List.set_cons_zero, List.set_cons_succ]
  refine tpg (i := 8) (v := .pointer none) rfl (by kernel_rfl) (fun _ _ _ h => h) rfl (fun W0 => r_move rfl rfl) (.inr hS) ?_
  simp only [Act.put, List.setIfInBounds_toArray, List.set_cons_zero, List.set_cons_succ]
  refine tpg (i := 9) (v := .pointer (some ⟨w.heap.size, 1, none⟩)) rfl (by kernel_rfl) (fun _ _ _ h => h) rfl (fun W0 => by unfold RunV; go_simp) (.inr hS) ?_
  simp only [Act.put, List.setIfInBounds_toArray, List.set_cons_zero, List.set_cons_succ]
  refine tpg (i := 11) (v := .pointer (some ⟨w.heap.size, 3, none⟩)) rfl (by kernel_rfl) (fun _ _ _ h => h) rfl (fun W0 => by unfold RunV; go_simp) (.inr hS) ?_
  simp only [Act.put, List.setIfInBounds_toArray, List.set_cons_zero, List.set_cons_succ]
  refine tpg (i := 13) (v := .pointer (some ⟨w.heap.size, 4, none⟩)) rfl (by kernel_rfl) (fun _ _ _ h => h) rfl (fun W0 => by unfold RunV; go_simp) (.inr hS) ?_
  simp only [Act.put, List.setIfInBounds_toArray, List.set_cons_zero, List.set_cons_succ]
  refine tcg (i := 10) (v := .int .i64 o.sec) rfl 8 (by kernel_rfl) (fun _ _ _ h => h) rfl (fun W0 hw => r_load1 rfl rfl (HO1.out W0 hw) (Try.isAgg3 _)) hS ?_
  simp only [Act.put, List.setIfInBounds_toArray, List.set_cons_zero, List.set_cons_succ]
  refine tcg (i := 12) (v := .int .u8 o.first.toNat) rfl 8 (by kernel_rfl) (fun _ _ _ h => h) rfl (fun W0 hw => r_load1 rfl rfl (HO3.out W0 hw) (Try.isAgg5 _)) hS ?_
  simp only [Act.put, List.setIfInBounds_toArray, List.set_cons_zero, List.set_cons_succ]
  refine tcg (i := 14) (v := .int .u8 o.step.toNat) rfl 8 (by kernel_rfl) (fun _ _ _ h => h) rfl (fun W0 hw => r_load1 rfl rfl (HO4.out W0 hw) (Try.isAgg5 _)) hS ?_
  simp only [Act.put, List.setIfInBounds_toArray, List.set_cons_zero, List.set_cons_succ]
  refine og1 (i := 15) rfl (by kernel_rfl) rfl ?_
  unfold Oper.wp
  go_simp
  refine (Bytes_c _ o.first o.step).mono ?_
  rintro e wb ⟨rfl, -, hFb⟩
  obtain ⟨gb, hgb⟩ : ∃ gb, w3.heap.size = gb := ⟨_, rfl⟩
  have HFX := Lib.hid (HFX.out.trans hFb (fun _ _ h => h))
  clear hFb hS
  refine ⟨HFX.out, ?_⟩
  have hS : (fun W : World => Fr Non w3 W) wb := HFX.out
  refine og1 (i := 16) rfl (by kernel_rfl) rfl ?_
  unfold Oper.wp
  go_simp
  refine (Write_nil wb o.sec _).mono ?_
  rintro e wx ⟨rfl, rfl⟩
  refine ⟨HFX.out, ?_⟩
  refine tpg (i := 17) (v := .bool false) rfl (by kernel_rfl) (fun _ _ _ h => h) rfl (fun W0 => r_neqK rfl Try.underlying24 rfl rfl (by simp)) (.inr hS) ?_
  simp only [Act.put, List.setIfInBounds_toArray, List.set_cons_zero, List.set_cons_succ]
  refine tp (i := 18) (v := .bool false) rfl (by kernel_rfl) (fun _ _ _ h => h) rfl (fun W0 => r_pick (b := false) rfl rfl rfl) (.inr hS) ?_
  simp only [Act.put, List.setIfInBounds_toArray, List.set_cons_zero, List.set_cons_succ]
  refine tp (i := 19) (v := .bool false) rfl (by kernel_rfl) (fun _ _ _ h => h) rfl (fun W0 => by unfold RunV; go_simp) (.inr hS) ?_
  simp only [Act.put, List.setIfInBounds_toArray, List.set_cons_zero, List.set_cons_succ]
  refine tpg (i := 20) (v := .pointer none) rfl (by kernel_rfl) (fun _ _ _ h => h) rfl (fun W0 => r_move rfl rfl) (.inr hS) ?_
  simp only [Act.put, List.setIfInBounds_toArray, List.set_cons_zero, List.set_cons_succ]
  refine og1 (i := 21) rfl (by kernel_rfl) rfl ?_
  unfold Oper.wp
  go_simp
  refine (Flush_nil wb).mono ?_
  rintro e wx ⟨rfl, rfl⟩
  refine ⟨HFX.out, ?_⟩
  refine tpg (i := 22) (v := .bool false) rfl (by kernel_rfl) (fun _ _ _ h => h) rfl (fun W0 => r_neqK rfl Try.underlying24 rfl rfl (by simp)) (.inr hS) ?_
  simp only [Act.put, List.setIfInBounds_toArray, List.set_cons_zero, List.set_cons_succ]
  refine tp (i := 23) (v := .bool false) rfl (by kernel_rfl) (fun _ _ _ h => h) rfl (fun W0 => r_pick (b := false) rfl rfl rfl) (.inr hS) ?_
  simp only [Act.put, List.setIfInBounds_toArray, List.set_cons_zero, List.set_cons_succ]
  refine tp (i := 24) (v := .bool false) rfl (by kernel_rfl) (fun _ _ _ h => h) rfl (fun W0 => by unfold RunV; go_simp) (.inr hS) ?_
  simp only [Act.put, List.setIfInBounds_toArray, List.set_cons_zero, List.set_cons_succ]
  refine tpg (i := 25) (v := .pointer none) rfl (by kernel_rfl) (fun _ _ _ h => h) rfl (fun W0 => r_move rfl rfl) (.inr hS) ?_
  simp only [Act.put, List.setIfInBounds_toArray, List.set_cons_zero, List.set_cons_succ]
  refine tpg (i := 26) (v := .pointer (some ⟨w.heap.size, 5, none⟩)) rfl (by kernel_rfl) (fun _ _ _ h => h) rfl (fun W0 => by unfold RunV; go_simp) (.inr hS) ?_
  simp only [Act.put, List.setIfInBounds_toArray, List.set_cons_zero, List.set_cons_succ]
  refine tcg (i := 27) (v := .slice ca cl cc) rfl 8 (by kernel_rfl) (fun _ _ _ h => h) rfl (fun W0 hw => r_load1 rfl rfl (HO5.out W0 hw) (Try.isAgg30 _)) hS ?_
  simp only [Act.put, List.setIfInBounds_toArray, List.set_cons_zero, List.set_cons_succ]
  refine og1 (i := 28) rfl (by kernel_rfl) rfl ?_
  unfold Oper.wp
  go_simp
  refine (Restart_nil wb _).mono ?_
  rintro e wx ⟨rfl, rfl⟩
  refine ⟨HFX.out, ?_⟩
  refine tpg (i := 29) (v := .bool false) rfl (by kernel_rfl) (fun _ _ _ h => h) rfl (fun W0 => r_neqK rfl Try.underlying24 rfl rfl (by simp)) (.inr hS) ?_
  simp only [Act.put, List.setIfInBounds_toArray, List.set_cons_zero, List.set_cons_succ]
  refine tp (i := 30) (v := .bool false) rfl (by kernel_rfl) (fun _ _ _ h => h) rfl (fun W0 => r_pick (b := false) rfl rfl rfl) (.inr hS) ?_
  simp only [Act.put, List.setIfInBounds_toArray, List.set_cons_zero, List.set_cons_succ]
  refine tp (i := 31) (v := .bool false) rfl (by kernel_rfl) (fun _ _ _ h => h) rfl (fun W0 => by unfold RunV; go_simp) (.inr hS) ?_
  simp only [Act.put, List.setIfInBounds_toArray, List.set_cons_zero, List.set_cons_succ]
  refine tpg (i := 32) (v := .pointer none) rfl (by kernel_rfl) (fun _ _ _ h => h) rfl (fun W0 => r_move rfl rfl) (.inr hS) ?_
  simp only [Act.put, List.setIfInBounds_toArray, List.set_cons_zero, List.set_cons_succ]
  refine tpg (i := 33) (v := .pointer (some ⟨w.heap.size, 1, none⟩)) rfl (by kernel_rfl) (fun _ _ _ h => h) rfl (fun W0 => by unfold RunV; go_simp) (.inr hS) ?_
  simp only [Act.put, List.setIfInBounds_toArray, List.set_cons_zero, List.set_cons_succ]
  refine tpg (i := 35) (v := .pointer (some ⟨w.heap.size, 2, none⟩)) rfl (by kernel_rfl) (fun _ _ _ h => h) rfl (fun W0 => by unfold RunV; go_simp) (.inr hS) ?_
  simp only [Act.put, List.setIfInBounds_toArray, List.set_cons_zero, List.set_cons_succ]
  refine tpg (i := 37) (v := .pointer (some ⟨w.heap.size, 3, none⟩)) rfl (by kernel_rfl) (fun _ _ _ h => h) rfl (fun W0 => by unfold RunV; go_simp) (.inr hS) ?_
  simp only [Act.put, List.setIfInBounds_toArray, List.set_cons_zero, List.set_cons_succ]
  refine tcg (i := 34) (v := .int .i64 o.sec) rfl 8 (by kernel_rfl) (fun _ _ _ h => h) rfl (fun W0 hw => r_load1 rfl rfl (HO1.out W0 hw) (Try.isAgg3 _)) hS ?_
  simp only [Act.put, List.setIfInBounds_toArray, List.set_cons_zero, List.set_cons_succ]
  refine tcg (i := 36) (v := .int .i64 o.at') rfl 8 (by kernel_rfl) (fun _ _ _ h => h) rfl (fun W0 hw => r_load1 rfl rfl (HO2.out W0 hw) (Try.isAgg3 _)) hS ?_
  simp only [Act.put, List.setIfInBounds_toArray, List.set_cons_zero, List.set_cons_succ]
  refine tcg (i := 38) (v := .int .u8 o.first.toNat) rfl 8 (by kernel_rfl) (fun _ _ _ h => h) rfl (fun W0 hw => r_load1 rfl rfl (HO3.out W0 hw) (Try.isAgg5 _)) hS ?_
  simp only [Act.put, List.setIfInBounds_toArray, List.set_cons_zero, List.set_cons_succ]
  refine og1 (i := 39) rfl (by kernel_rfl) rfl ?_
  unfold Oper.wp
  go_simp
  refine (Damage_nil wb o.sec o.at' _).mono ?_
  rintro e wx ⟨rfl, rfl⟩
  refine ⟨HFX.out, ?_⟩
  refine tpg (i := 40) (v := .bool false) rfl (by kernel_rfl) (fun _ _ _ h => h) rfl (fun W0 => r_neqK rfl Try.underlying24 rfl rfl (by simp)) (.inr hS) ?_
  simp only [Act.put, List.setIfInBounds_toArray, List.set_cons_zero, List.set_cons_succ]
  refine oc2 (i := 41) (v := .bool false) rfl (by kernel_rfl) rfl (by kernel_rfl) (r_pick (b := false) rfl rfl rfl) ?_
  simp only [Act.put, List.setIfInBounds_toArray, List.set_cons_zero, List.set_cons_succ]
  refine dcn (by kernel_rfl) ?_
  clear hS
  have HF0b : Hid (Fr Non w wb) := HF03.out.trans HFX.out (fun _ _ h => h)
  have HB1b := Lib.hid (HFX.out.keep HB1'.out (fun h => h))
  have HB2b := Lib.hid (HFX.out.keep HB2'.out (fun h => h))
  clear HO1 HO2 HO3 HO4 HO5 HFX hgb
  go_wp2_with (first
    | (go_at_call 34; refine (Sparse_c wb none).mono ?_; rintro e w9 ⟨rfl, rfl⟩)
    | fail)
  have hw9c : (wb.alloc (.cells #[.pointer none] 23)).cell? ⟨wb.heap.size, 0, none⟩ = some (.pointer none) := cellOf (heap_alloc_new wb _) 0 rfl
  have hs9 : wb.heap.size < (wb.alloc (.cells #[.pointer none] 23)).heap.size := by simp
  have HF9 : Hid (Fr Non wb (wb.alloc (.cells #[.pointer none] 23))) := (Fr.refl _ wb).alloc _
  generalize wb.alloc (.cells #[.pointer none] 23) = w9 at *
  refine wp_range (α := Int) rfl (enters_of Try.func54 (by kernel_rfl) rfl) (sparse_nil_stops wb.heap.size w9 hs9 hw9c) (fun _ => rfl) (fun _ W => Fr Non w9 W) (fun _ _ _ => False) (ownFrom_fr (Nat.le_refl _) (fun _ => Non)) (fun c s W W' row hs _ _ => hs) (Fr.refl _ _) (fun _ _ _ => True) (fun _ _ _ _ _ _ _ _ _ => trivial) ?assign ?body ?done ?stop
  case assign =>
    intro l pre x W K hI hK
    have HK := Lib.hid hK
    clear hK
    gi_wp2
    exact HK.out _ W (KeepsFrom.refl _ _) (Below.refl _ _) hI trivial
  case body =>
    intro l pre x a' W _ _ _ _ h
    omega
  case stop => intro D c pre W _ h; exact h.elim
  case done =>
    rintro K xs W hK hxs hI hKd
    have HF9W : Hid (Fr Non w W) := (HF0b.out.trans HF9.out (fun _ _ h => h)).trans hI (fun _ _ h => h)
    have HKD := Lib.hid hKd
    have HKL : Hid (K < W.heap.size) := heap_lt hKd
    have HKG : Hid (w.heap.size ≤ K) := Nat.le_trans (HF0b.out.trans HF9.out (fun _ _ h => h)).size hK
    have HB1W := Lib.hid ((HF9.out.trans hI (fun _ _ h => h)).keep HB1b.out (fun h => h))
    have HB2W := Lib.hid ((HF9.out.trans hI (fun _ _ h => h)).keep HB2b.out (fun h => h))
    clear hK hxs hI hKd hw9c hs9
    go_wp2_with (first
      | (go_at_call 12; refine (New_yes W 2 (by omega) (by omega)).mono ?_; rintro e wn ⟨rfl, hdn, hFn⟩; have HDN := Lib.hid hdn; have HFN := Lib.hid hFn; have q3 := cellOf (hFn.keep HB1W.out (fun h => h)) 3 rfl; have q4 := cellOf (hFn.keep HB1W.out (fun h => h)) 4 rfl; clear hdn hFn)
      | (go_at_call 21; refine (Bytes_c _ o.first o.step).mono ?_; rintro e w8 ⟨rfl, hb8, hF8⟩; have HB8 := Lib.hid hb8; have HF8 := Lib.hid hF8; clear hb8 hF8 q3 q4)
      | fail)
    have hd8 := HDN.out.fr HF8.out (fun _ _ h => h)
    have hby8 : BytesAt w8 (.slice (some ⟨wn.heap.size, 0, none⟩) 256 256) s.1 := by
      rw [← HS.out]; exact BytesAt.of_block HB8.out 256 256 (bytesL_length _ _).symm
    have hsz8 : W.heap.size + 1 < wn.heap.size := by have := HDN.out.plt; omega
    refine (Write_ok w8 (W.heap.size + 1) W.heap.size (.slice none 0 0) (Dsk.fresh 2) 0 _ s hd8 rfl (by decide) rfl (Nat.zero_le _) hby8 (fun k hk => ⟨by have h1 : wn.heap.size = k := Option.some.inj hk; omega, fun h => by cases h⟩)).mono ?_
    rintro e w10 ⟨rfl, pv, hd10, hF10, hpv⟩
    have HD10 : Hid (DiskAt w10 (W.heap.size + 1) W.heap.size pv (nilD s)) := hd10
    have hnf : ∀ k, k < W.heap.size ∨ k = wn.heap.size → ¬ Foot (W.heap.size + 1) W.heap.size (.slice none 0 0) k := fun k hk hf => by
      rcases hf with h | h | h
      · omega
      · omega
      · cases h
    have hb10 := hF10.keep HB8.out (hnf _ (.inr rfl))
    rw [HS.out] at hb10
    have HB10 := Lib.hid hb10
    have HF10 : Hid (Fr Non W w10) := (HFN.out.trans HF8.out (fun _ _ h => h)).trans hF10 (fun i hi hf => hnf i (.inl hi) hf)
    have HSZ : Hid (W.heap.size ≤ wn.heap.size) := HFN.out.size
    clear hd10 hF10 hpv hb10 hd8 hby8 hsz8 hnf
    generalize wn.heap.size = g8 at *
    obtain ⟨x3, hx3⟩ : ∃ x3 : UInt8, s.1[3]? = some x3 := ⟨_, List.getElem?_eq_getElem (by rw [s.2]; omega)⟩
    have q3 : w10.cell? ⟨g8, 3, none⟩ = some (.int .u8 x3.toNat) := cellOf HB10.out 3 (by rw [List.getElem?_toArray, u8s_get, hx3]; rfl)
    have f3 := frozenOf HB10.out 3
    have hF11 : Fr (· = g8) w10 (w10.setCell ⟨g8, 3, none⟩ (.int .u8 (IntKind.u8.wrap ((x3.toNat : Int) + 1)))) := (Fr.refl _ _).setCell _ _ (fun _ => rfl)
    have HD11 : Hid (DiskAt (w10.setCell ⟨g8, 3, none⟩ (.int .u8 (IntKind.u8.wrap ((x3.toNat : Int) + 1)))) (W.heap.size + 1) W.heap.size pv (nilD s)) := HD10.out.fr hF11 (fun k hk e => by have e' : k = g8 := e; subst e'; exact HD10.out.notOf HB10.out (by decide) hk)
    have HF11 : Hid (Fr Non W (w10.setCell ⟨g8, 3, none⟩ (.int .u8 (IntKind.u8.wrap ((x3.toNat : Int) + 1))))) := HF10.out.trans hF11 (fun i hi e => by have e' : i = g8 := e; have := HSZ.out; omega)
    clear hF11 hx3
    go_wp2_with (first
      | (guard_target =~ wpList _ _ _ (⟨_, Op.binOp _ 5 _ _ _, _, _, _, _⟩ :: _) _ _; refine wl rfl (r_addK (b := x3.toNat) (c := 1) rfl Try.underlying5 rfl rfl) ?_; simp only [Act.put, List.setIfInBounds_toArray, List.set_cons_zero, List.set_cons_succ])
      | (guard_target =~ wpList _ _ _ (⟨_, Op.store 5 _ _, _, _, _, _⟩ :: _) _ _; refine wu rfl (r_storeK (p := ⟨g8, 3, none⟩) rfl rfl rfl (Try.sizeOf5 _) q3 f3) ?_; simp only [Act.put, List.setIfInBounds_toArray, List.set_cons_zero, List.set_cons_succ]; clear q3 f3; generalize w10.setCell ⟨g8, 3, none⟩ (.int .u8 (IntKind.u8.wrap ((x3.toNat : Int) + 1))) = w11 at *)
      | fail)
    refine (Read_ok w11 _ _ pv (nilD s) 0 HD11.out rfl rfl (by show 1 ≤ 100000; omega)).mono ?_
    rintro e w12 ⟨g10, rfl, hg10, hn10, hF12⟩
    have HG10 := Lib.hid hg10
    have HN10 := Lib.hid hn10
    have HF12 := Lib.hid hF12
    clear hg10 hn10 hF12
    rw [nilD_see] at HG10
    have hw11 : W.heap.size ≤ w11.heap.size := HF11.out.size
    have HF1W : Hid (Fr Non W w12) := HF11.out.trans HF12.out (fun _ _ h => h)
    have HD12 := Lib.hid (HD11.out.fr HF12.out (fun _ _ h => h))
    have HN10' : Hid (W.heap.size ≤ g10) := Nat.le_trans hw11 HN10.out
    clear hw11
    obtain ⟨x5, hx5⟩ : ∃ x5 : UInt8, s.1[5]? = some x5 := ⟨_, List.getElem?_eq_getElem (by rw [s.2]; omega)⟩
    have q5 : w12.cell? ⟨g10, 5, none⟩ = some (.int .u8 x5.toNat) := cellOf HG10.out 5 (by rw [List.getElem?_toArray, u8s_get, hx5]; rfl)
    have f5 := frozenOf HG10.out 5
    have hF13 : Fr (· = g10) w12 (w12.setCell ⟨g10, 5, none⟩ (.int .u8 (IntKind.u8.wrap ((x5.toNat : Int) + 1)))) := (Fr.refl _ _).setCell _ _ (fun _ => rfl)
    have HD13 : Hid (DiskAt (w12.setCell ⟨g10, 5, none⟩ (.int .u8 (IntKind.u8.wrap ((x5.toNat : Int) + 1)))) (W.heap.size + 1) W.heap.size pv (nilD s)) := HD12.out.fr hF13 (fun k hk e => by have e' : k = g10 := e; subst e'; exact HD12.out.notOf HG10.out (by decide) hk)
    have HF13 : Hid (Fr Non W (w12.setCell ⟨g10, 5, none⟩ (.int .u8 (IntKind.u8.wrap ((x5.toNat : Int) + 1))))) := HF1W.out.trans hF13 (fun i hi e => by have e' : i = g10 := e; have := HN10'.out; omega)
    clear hF13 hx5
    go_wp2_with (first
      | (guard_target =~ wpList _ _ _ (⟨_, Op.binOp _ 5 _ _ _, _, _, _, _⟩ :: _) _ _; refine wl rfl (r_addK (b := x5.toNat) (c := 1) rfl Try.underlying5 rfl rfl) ?_; simp only [Act.put, List.setIfInBounds_toArray, List.set_cons_zero, List.set_cons_succ])
      | (guard_target =~ wpList _ _ _ (⟨_, Op.store 5 _ _, _, _, _, _⟩ :: _) _ _; refine wu rfl (r_storeK (p := ⟨g10, 5, none⟩) rfl rfl rfl (Try.sizeOf5 _) q5 f5) ?_; simp only [Act.put, List.setIfInBounds_toArray, List.set_cons_zero, List.set_cons_succ]; clear q5 f5; generalize w12.setCell ⟨g10, 5, none⟩ (.int .u8 (IntKind.u8.wrap ((x5.toNat : Int) + 1))) = w16 at *)
      | fail)
    refine (Read_ok w16 _ _ pv (nilD s) 0 HD13.out rfl rfl (by show 1 ≤ 100000; omega)).mono ?_
    rintro e w17 ⟨g11, rfl, hg11, -, hF17⟩
    have HG11 := Lib.hid hg11
    have HF17 := Lib.hid hF17
    clear hg11 hF17
    rw [nilD_see] at HG11
    have HFW17 : Hid (Fr Non W w17) := HF13.out.trans HF17.out (fun _ _ h => h)
    have HO3 : Hid (∀ V, Fr Non w17 V → V.cell? ⟨w.heap.size, 3, none⟩ = some (.int .u8 o.first.toNat)) := fun V hV => cellOf ((HFW17.out.trans hV (fun _ _ h => h)).keep HB1W.out (fun h => h)) 3 rfl
    have HO4 : Hid (∀ V, Fr Non w17 V → V.cell? ⟨w.heap.size, 4, none⟩ = some (.int .u8 o.step.toNat)) := fun V hV => cellOf ((HFW17.out.trans hV (fun _ _ h => h)).keep HB1W.out (fun h => h)) 4 rfl
    have HB2 : Hid (∀ V, Fr Non w17 V → V.heap[w.heap.size + 1]? = some (.cells #[.bool false] 4)) := fun V hV => (HFW17.out.trans hV (fun _ _ h => h)).keep HB2W.out (fun h => h)
    have HB11 : Hid (∀ V, Fr Non w17 V → BytesAt V (.slice (some ⟨g11, 0, none⟩) 256 256) s.1) := fun V hV => BytesAt.of_block (hV.keep HG11.out (fun h => h)) 256 256 s.2.symm
    have HSS : Hid (bytesL o.first o.step = s.1) := HS.out
    go_wp2_with fail
    refine rcn (fun W : World => Fr Non w17 W) 51 (by kernel_rfl) ?_
    have hS : (fun W : World => Fr Non w17 W) w17.drew := (Fr.refl _ w17).drew
    have HFX : Hid (Fr Non w17 w17.drew) := (Fr.refl _ w17).drew
    refine tp (i := 0) (v := .int .i64 0) rfl (by kernel_rfl) (fun _ _ _ h => h) rfl (fun W0 => r_move rfl rfl) (.inr hS) ?_
    simp only [Act.put, List.setIfInBounds_toArray, List.set_cons_zero, List.set_cons_succ]
    refine tp (i := 1) (v := .bool true) rfl (by kernel_rfl) (fun _ _ _ h => h) rfl (fun W0 => r_eqlK rfl Try.underlying24 rfl rfl (by simp)) (.inr hS) ?_
    simp only [Act.put, List.setIfInBounds_toArray, List.set_cons_zero, List.set_cons_succ]
    refine tp (i := 2) (v := .bool true) rfl (by kernel_rfl) (fun _ _ _ h => h) rfl (fun W0 => by unfold RunV; go_simp) (.inr hS) ?_
    simp only [Act.put, List.setIfInBounds_toArray, List.set_cons_zero, List.set_cons_succ]
    refine tpg (i := 3) (v := .int .i64 0) rfl (by kernel_rfl) (fun _ _ _ h => h) rfl (fun W0 => r_move rfl rfl) (.inr hS) ?_
    simp only [Act.put, List.setIfInBounds_toArray, List.set_cons_zero, List.set_cons_succ]
    refine tpg (i := 4) (v := .bool true) rfl (by kernel_rfl) (fun _ _ _ h => h) rfl (fun W0 => r_eqlK rfl Try.underlying24 rfl rfl (by simp)) (.inr hS) ?_
    simp only [Act.put, List.setIfInBounds_toArray, List.set_cons_zero, List.set_cons_succ]
    refine tp (i := 5) (v := .bool true) rfl (by kernel_rfl) (fun _ _ _ h => h) rfl (fun W0 => r_pick (b := true) rfl rfl rfl) (.inr hS) ?_
    simp only [Act.put, List.setIfInBounds_toArray, List.set_cons_zero, List.set_cons_succ]
    refine tp (i := 6) (v := .bool true) rfl (by kernel_rfl) (fun _ _ _ h => h) rfl (fun W0 => by unfold RunV; go_simp) (.inr hS) ?_
    simp only [Act.put, List.setIfInBounds_toArray, List.set_cons_zero, List.set_cons_succ]
    refine tpg (i := 7) (v := .int .i64 0) rfl (by kernel_rfl) (fun _ _ _ h => h) rfl (fun W0 => r_move rfl rfl) (.inr hS) ?_
    simp only [Act.put, List.setIfInBounds_toArray, List.set_cons_zero, List.set_cons_succ]
    refine tpg (i := 8) (v := .bool true) rfl (by kernel_rfl) (fun _ _ _ h => h) rfl (fun W0 => r_eqlK rfl Try.underlying24 rfl rfl (by simp)) (.inr hS) ?_
    simp only [Act.put, List.setIfInBounds_toArray, List.set_cons_zero, List.set_cons_succ]
    refine tp (i := 9) (v := .bool true) rfl (by kernel_rfl) (fun _ _ _ h => h) rfl (fun W0 => r_pick (b := true) rfl rfl rfl) (.inr hS) ?_
    simp only [Act.put, List.setIfInBounds_toArray, List.set_cons_zero, List.set_cons_succ]
    refine tp (i := 10) (v := .bool true) rfl (by kernel_rfl) (fun _ _ _ h => h) rfl (fun W0 => by unfold RunV; go_simp) (.inr hS) ?_
    simp only [Act.put, List.setIfInBounds_toArray, List.set_cons_zero, List.set_cons_succ]
    refine tpg (i := 11) (v := .slice (some ⟨g11, 0, none⟩) 256 256) rfl (by kernel_rfl) (fun _ _ _ h => h) rfl (fun W0 => r_move rfl rfl) (.inr hS) ?_
    simp only [Act.put, List.setIfInBounds_toArray, List.set_cons_zero, List.set_cons_succ]
    refine tpg (i := 13) (v := .pointer (some ⟨w.heap.size, 3, none⟩)) rfl (by kernel_rfl) (fun _ _ _ h => h) rfl (fun W0 => by unfold RunV; go_simp) (.inr hS) ?_
    simp only [Act.put, List.setIfInBounds_toArray, List.set_cons_zero, List.set_cons_succ]
    refine tpg (i := 15) (v := .pointer (some ⟨w.heap.size, 4, none⟩)) rfl (by kernel_rfl) (fun _ _ _ h => h) rfl (fun W0 => by unfold RunV; go_simp) (.inr hS) ?_
    simp only [Act.put, List.setIfInBounds_toArray, List.set_cons_zero, List.set_cons_succ]
    refine tcg (i := 12) (v := .string (strOf s.1)) rfl 8 (by kernel_rfl) (fun _ _ _ h => h) rfl (fun W0 hw => r_convert (u := .slice (some ⟨g11, 0, none⟩) 256 256) rfl rfl (run_str Try.underlying30 Try.underlying5 Try.underlying9 (HB11.out W0 hw))) hS ?_
    simp only [Act.put, List.setIfInBounds_toArray, List.set_cons_zero, List.set_cons_succ]
    refine tcg (i := 14) (v := .int .u8 o.first.toNat) rfl 8 (by kernel_rfl) (fun _ _ _ h => h) rfl (fun W0 hw => r_load1 rfl rfl (HO3.out W0 hw) (Try.isAgg5 _)) hS ?_
    simp only [Act.put, List.setIfInBounds_toArray, List.set_cons_zero, List.set_cons_succ]
    refine tcg (i := 16) (v := .int .u8 o.step.toNat) rfl 8 (by kernel_rfl) (fun _ _ _ h => h) rfl (fun W0 hw => r_load1 rfl rfl (HO4.out W0 hw) (Try.isAgg5 _)) hS ?_
    simp only [Act.put, List.setIfInBounds_toArray, List.set_cons_zero, List.set_cons_succ]
    refine og1 (i := 17) rfl (by kernel_rfl) rfl ?_
    unfold Oper.wp
    go_simp
    refine (Bytes_c _ o.first o.step).mono ?_
    rintro e wb ⟨rfl, hbb, hFb⟩
    have HBB : Hid (BytesAt wb (.slice (some ⟨w17.heap.size, 0, none⟩) 256 256) s.1) := by rw [← HSS.out]; exact BytesAt.of_block hbb 256 256 (bytesL_length _ _).symm
    have HFX := Lib.hid (HFX.out.trans hFb (fun _ _ h => h))
    clear hFb hS hbb
    refine ⟨HFX.out, ?_⟩
    have hS : (fun W : World => Fr Non w17 W) wb := HFX.out
    refine og3 (i := 18) (v := .string (strOf s.1)) rfl (by kernel_rfl) rfl hS (r_convert (u := .slice (some ⟨w17.heap.size, 0, none⟩) 256 256) rfl rfl (run_str Try.underlying30 Try.underlying5 Try.underlying9 HBB.out)) ?_
    simp only [Act.put, List.setIfInBounds_toArray, List.set_cons_zero, List.set_cons_succ]
    refine tpg (i := 19) (v := .bool true) rfl (by kernel_rfl) (fun _ _ _ h => h) rfl (fun W0 => r_strEql_same rfl Try.underlying9 rfl rfl) (.inr hS) ?_
    simp only [Act.put, List.setIfInBounds_toArray, List.set_cons_zero, List.set_cons_succ]
    refine tp (i := 20) (v := .bool true) rfl (by kernel_rfl) (fun _ _ _ h => h) rfl (fun W0 => r_pick (b := true) rfl rfl rfl) (.inr hS) ?_
    simp only [Act.put, List.setIfInBounds_toArray, List.set_cons_zero, List.set_cons_succ]
    refine tp (i := 21) (v := .bool true) rfl (by kernel_rfl) (fun _ _ _ h => h) rfl (fun W0 => by unfold RunV; go_simp) (.inr hS) ?_
    simp only [Act.put, List.setIfInBounds_toArray, List.set_cons_zero, List.set_cons_succ]
    refine tpg (i := 22) (v := .pointer none) rfl (by kernel_rfl) (fun _ _ _ h => h) rfl (fun W0 => r_move rfl rfl) (.inr hS) ?_
    simp only [Act.put, List.setIfInBounds_toArray, List.set_cons_zero, List.set_cons_succ]
    refine og1 (i := 23) rfl (by kernel_rfl) rfl ?_
    unfold Oper.wp
    go_simp
    refine (Sectors_nil wb).mono ?_
    rintro e wx ⟨rfl, rfl⟩
    refine ⟨HFX.out, ?_⟩
    refine tpg (i := 24) (v := .bool true) rfl (by kernel_rfl) (fun _ _ _ h => h) rfl (fun W0 => r_eqlK rfl Try.underlying3 rfl rfl (by simp)) (.inr hS) ?_
    simp only [Act.put, List.setIfInBounds_toArray, List.set_cons_zero, List.set_cons_succ]
    refine tp (i := 25) (v := .bool true) rfl (by kernel_rfl) (fun _ _ _ h => h) rfl (fun W0 => r_pick (b := true) rfl rfl rfl) (.inr hS) ?_
    simp only [Act.put, List.setIfInBounds_toArray, List.set_cons_zero, List.set_cons_succ]
    refine tp (i := 26) (v := .bool true) rfl (by kernel_rfl) (fun _ _ _ h => h) rfl (fun W0 => by unfold RunV; go_simp) (.inr hS) ?_
    simp only [Act.put, List.setIfInBounds_toArray, List.set_cons_zero, List.set_cons_succ]
    refine tpg (i := 27) (v := .pointer none) rfl (by kernel_rfl) (fun _ _ _ h => h) rfl (fun W0 => r_move rfl rfl) (.inr hS) ?_
    simp only [Act.put, List.setIfInBounds_toArray, List.set_cons_zero, List.set_cons_succ]
    refine og1 (i := 28) rfl (by kernel_rfl) rfl ?_
    unfold Oper.wp
    go_simp
    refine (Operations_nil wb).mono ?_
    rintro e wx ⟨rfl, rfl⟩
    refine ⟨HFX.out, ?_⟩
    refine tpg (i := 29) (v := .bool true) rfl (by kernel_rfl) (fun _ _ _ h => h) rfl (fun W0 => r_eqlK rfl Try.underlying3 rfl rfl (by simp)) (.inr hS) ?_
    simp only [Act.put, List.setIfInBounds_toArray, List.set_cons_zero, List.set_cons_succ]
    refine tp (i := 30) (v := .bool true) rfl (by kernel_rfl) (fun _ _ _ h => h) rfl (fun W0 => r_pick (b := true) rfl rfl rfl) (.inr hS) ?_
    simp only [Act.put, List.setIfInBounds_toArray, List.set_cons_zero, List.set_cons_succ]
    refine tp (i := 31) (v := .bool true) rfl (by kernel_rfl) (fun _ _ _ h => h) rfl (fun W0 => by unfold RunV; go_simp) (.inr hS) ?_
    simp only [Act.put, List.setIfInBounds_toArray, List.set_cons_zero, List.set_cons_succ]
    refine tpg (i := 32) (v := .pointer none) rfl (by kernel_rfl) (fun _ _ _ h => h) rfl (fun W0 => r_move rfl rfl) (.inr hS) ?_
    simp only [Act.put, List.setIfInBounds_toArray, List.set_cons_zero, List.set_cons_succ]
    refine og1 (i := 33) rfl (by kernel_rfl) rfl ?_
    unfold Oper.wp
    go_simp
    refine (Pending_nil wb).mono ?_
    rintro e wx ⟨rfl, rfl⟩
    refine ⟨HFX.out, ?_⟩
    refine tpg (i := 34) (v := .int .i64 0) rfl (by kernel_rfl) (fun _ _ _ h => h) rfl (fun W0 => by unfold RunV; go_simp) (.inr hS) ?_
    simp only [Act.put, List.setIfInBounds_toArray, List.set_cons_zero, List.set_cons_succ]
    refine tpg (i := 35) (v := .bool true) rfl (by kernel_rfl) (fun _ _ _ h => h) rfl (fun W0 => r_eqlK rfl Try.underlying3 rfl rfl (by simp)) (.inr hS) ?_
    simp only [Act.put, List.setIfInBounds_toArray, List.set_cons_zero, List.set_cons_succ]
    refine tp (i := 36) (v := .bool true) rfl (by kernel_rfl) (fun _ _ _ h => h) rfl (fun W0 => r_pick (b := true) rfl rfl rfl) (.inr hS) ?_
    simp only [Act.put, List.setIfInBounds_toArray, List.set_cons_zero, List.set_cons_succ]
    refine tp (i := 37) (v := .bool true) rfl (by kernel_rfl) (fun _ _ _ h => h) rfl (fun W0 => by unfold RunV; go_simp) (.inr hS) ?_
    simp only [Act.put, List.setIfInBounds_toArray, List.set_cons_zero, List.set_cons_succ]
    refine tpg (i := 38) (v := .pointer none) rfl (by kernel_rfl) (fun _ _ _ h => h) rfl (fun W0 => r_move rfl rfl) (.inr hS) ?_
    simp only [Act.put, List.setIfInBounds_toArray, List.set_cons_zero, List.set_cons_succ]
    refine og1 (i := 39) rfl (by kernel_rfl) rfl ?_
    unfold Oper.wp
    go_simp
    refine (Down_nil wb).mono ?_
    rintro e wx ⟨rfl, rfl⟩
    refine ⟨HFX.out, ?_⟩
    refine tpg (i := 40) (v := .bool true) rfl (by kernel_rfl) (fun _ _ _ h => h) rfl (fun W0 => by unfold RunV; go_simp) (.inr hS) ?_
    simp only [Act.put, List.setIfInBounds_toArray, List.set_cons_zero, List.set_cons_succ]
    refine tp (i := 41) (v := .bool true) rfl (by kernel_rfl) (fun _ _ _ h => h) rfl (fun W0 => r_pick (b := true) rfl rfl rfl) (.inr hS) ?_
    simp only [Act.put, List.setIfInBounds_toArray, List.set_cons_zero, List.set_cons_succ]
    refine tp (i := 42) (v := .bool true) rfl (by kernel_rfl) (fun _ _ _ h => h) rfl (fun W0 => by unfold RunV; go_simp) (.inr hS) ?_
    simp only [Act.put, List.setIfInBounds_toArray, List.set_cons_zero, List.set_cons_succ]
    refine tpg (i := 43) (v := .pointer none) rfl (by kernel_rfl) (fun _ _ _ h => h) rfl (fun W0 => r_move rfl rfl) (.inr hS) ?_
    simp only [Act.put, List.setIfInBounds_toArray, List.set_cons_zero, List.set_cons_succ]
    refine og1 (i := 44) rfl (by kernel_rfl) rfl ?_
    unfold Oper.wp
    go_simp
    refine (Clone_nil wb).mono ?_
    rintro e wx ⟨rfl, rfl⟩
    refine ⟨HFX.out, ?_⟩
    refine tpg (i := 45) (v := .bool true) rfl (by kernel_rfl) (fun _ _ _ h => h) rfl (fun W0 => by unfold RunV; go_simp) (.inr hS) ?_
    simp only [Act.put, List.setIfInBounds_toArray, List.set_cons_zero, List.set_cons_succ]
    refine tp (i := 46) (v := .bool true) rfl (by kernel_rfl) (fun _ _ _ h => h) rfl (fun W0 => r_pick (b := true) rfl rfl rfl) (.inr hS) ?_
    simp only [Act.put, List.setIfInBounds_toArray, List.set_cons_zero, List.set_cons_succ]
    refine tp (i := 47) (v := .bool true) rfl (by kernel_rfl) (fun _ _ _ h => h) rfl (fun W0 => by unfold RunV; go_simp) (.inr hS) ?_
    simp only [Act.put, List.setIfInBounds_toArray, List.set_cons_zero, List.set_cons_succ]
    refine tpg (i := 48) (v := .pointer none) rfl (by kernel_rfl) (fun _ _ _ h => h) rfl (fun W0 => r_move rfl rfl) (.inr hS) ?_
    simp only [Act.put, List.setIfInBounds_toArray, List.set_cons_zero, List.set_cons_succ]
    refine og1 (i := 49) rfl (by kernel_rfl) rfl ?_
    unfold Oper.wp
    go_simp
    refine (Equal_nilnil wb).mono ?_
    rintro e wx ⟨rfl, rfl⟩
    refine ⟨HFX.out, ?_⟩
    refine tp (i := 50) (v := .bool true) rfl (by kernel_rfl) (fun _ _ _ h => h) rfl (fun W0 => r_pick (b := true) rfl rfl rfl) (.inr hS) ?_
    simp only [Act.put, List.setIfInBounds_toArray, List.set_cons_zero, List.set_cons_succ]
    refine oc2u (i := 51) rfl (by kernel_rfl) rfl (by kernel_rfl) (w' := wb.setCell ⟨w.heap.size + 1, 0, none⟩ (.bool true)) (by have q := HB2.out wb HFX.out; have q0 := cellOf q 0 rfl; have q1 := frozenOf q 0; unfold RunU; go_simp) ?_
    simp only [Act.put, List.setIfInBounds_toArray, List.set_cons_zero, List.set_cons_succ]
    refine dcn (by kernel_rfl) ?_
    have HFWb : Hid (Fr Non W wb) := HFW17.out.trans HFX.out (fun _ _ h => h)
    have hbb := HB2.out wb HFX.out
    have hfin : Fr Non w (wb.setCell ⟨w.heap.size + 1, 0, none⟩ (.bool true)) := (HF9W.out.trans HFWb.out (fun _ _ h => h)).setCell _ _ (fun h => absurd h (by show ¬ (w.heap.size + 1 < w.heap.size); omega))
    have hb2f := heap_setCell_at hbb 0 (.bool true)
    have hkf : (wb.setCell ⟨w.heap.size + 1, 0, none⟩ (.bool true)).heap[K]? = some (.deferred (some [])) := by
      have h1 := HFWb.out.keep HKD.out (fun h => h)
      have hne : K ≠ w.heap.size + 1 := by rintro rfl; rw [h1] at hbb; cases hbb
      rw [Below.heap_setCell _ _ _ _ hne]; exact h1
    have HKF := Lib.hid hkf
    have HFIN := Lib.hid hfin
    have HB2F := Lib.hid hb2f
    clear hkf hfin hb2f hbb
    go_wp2_with fail
    exact ret_mark HKF.out (results_cell1 (p := 2) rfl _ _ (w.heap.size + 1) _ rfl (cellOf (heap_putMark HKF.out HB2F.out rfl) 0 rfl) (Try.isAgg4 _)) ⟨rfl, putMark HFIN.out HKG.out _⟩
end Go.Proofs.Yticgkbpmaakkiaa
