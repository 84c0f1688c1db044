import Derived.Test.YticgkbpmaakkiaaDk0q
import Derived.Test.YticgkbpmaakkiaaOpsq
namespace Go.Proofs.Yticgkbpmaakkiaa
open Go.RowKit

theorem info80 : (Try.prog.info? 80).map (fun i => (i.zero, i.size)) = some (some (.agg (u8s zeroSec.1).toArray), 256) := by kernel_rfl
theorem sz80 : (Try.prog.info? 80).map (·.size) = some 256 := by kernel_rfl
theorem sz5 : (Try.prog.info? 5).map (·.size) = some 1 := by kernel_rfl
theorem sz82 : (Try.prog.info? 82).map (·.size) = some 257 := by kernel_rfl

theorem eq80 (s t : Sec) (w : World) : (binOp .eql 80 (.agg (u8s s.1).toArray) (.agg (u8s t.1).toArray)).run Try.prog w = .ok (.bool (decide (s = t))) w := by
  rw [run_eql_bytes w Try.underlying80 Try.underlying5 sz5 _ _ s.2 t.2]
  congr 2
  have : (s.1 = t.1) ↔ s = t := Subtype.ext_iff.symm
  simp only [this]
theorem guard80 (x y : Operand) (xs ys : Array Value) (w : World) : (eqGuard .eql 80 x y (.agg xs) (.agg ys)).run Try.prog w = .ok () w := run_eqGuard_agg w .eql 80 x y xs ys (by kernel_rfl)

theorem zero80 (w : World) : (zeroValue 80).run Try.prog w = .ok (.agg (u8s zeroSec.1).toArray) w := (zero_of_info info80).1 w
theorem build80 (w : World) : (Instr.build 80 #[]).run Try.prog w = .ok (.agg (u8s zeroSec.1).toArray) w := by
  unfold Instr.build
  simp only [Sem.run_bind, zero80, Result.andThen_ok, run_underlying Try.underlying80, size_of_info w sz5]
  simp [Instr.fill, Value.cells]

def Dsk.store (D : Dsk) (k : Int) (s : Sec) : Dsk := { D with dur := fun j => if j = k then (if s = zeroSec then none else some s) else D.dur j }

theorem sec_len (s : Sec) : (u8s s.1).length = 256 := by rw [u8s_length, s.2]

theorem keyOk3 : KeyOk Try.prog 3 (fun n : Int => Value.int .i64 n) := keyOk_int Try.underlying3

/-- The device behind a change of its map. -/
theorem DiskAt.setMap {w : World} {p m : Nat} {pv : Value} {D : Dsk} (h : DiskAt w p m pv D) {o : Obj} {l : List (Int × Sec)} (hl : MapAt (w.putObj m o) m (fun n : Int => Value.int .i64 n) secV l) {f : Int → Option Sec} (hf : ∀ k, f k = aget k l) :
    DiskAt (w.putObj m o) p m pv { D with dur := f } := by
  have hF : Fr (· = m) w (w.putObj m o) := (Fr.refl _ w).putObj m o (fun _ => rfl)
  exact ⟨hF.keep h.hp (fun e => h.mne e.symm), ⟨l, hl, hf⟩, ownsRow_fr hF h.hv (fun k hk e => (h.vlt hk).2.2 e)⟩

set_option maxRecDepth 100000 in
theorem store_c (w : World) (p m : Nat) (pv : Value) (D : Dsk) (k : Int) (s : Sec) (h : DiskAt w p m pv D) :
    Calls Try.prog 40 #[.pointer (some ⟨p, 0, none⟩), .int .i64 k, .agg (u8s s.1).toArray] w fun e w' => e = .returned (.tuple #[]) ∧ DiskAt w' p m pv (D.store k s) ∧ Fr (· = m) w w' := by
  have hW : DiskAt (w.alloc (.cells (u8s s.1).toArray 80)) p m pv D := h.fr ((Fr.refl Non w).alloc _) (fun _ _ hf => hf)
  have hF0 : Fr (· = m) w (w.alloc (.cells (u8s s.1).toArray 80)) := (Fr.refl _ w).alloc _
  have hr80 : (w.alloc (.cells (u8s s.1).toArray 80)).rangeAt w.heap.size 0 (u8s s.1) := rangeAt_of (heap_alloc_new w _) 0 _ (by simp)
  obtain ⟨c0, c1, c2, c3, c4, c5, c6⟩ := hW.cell
  clear c0 c2 c3 c4 c5 c6
  have hlen := Lib.hid (sec_len s)
  obtain ⟨l, hl, hg⟩ := hW.hm
  have hnd := hl.nodup
  by_cases hs : s = zeroSec
  · obtain ⟨o, hdel, hl2⟩ := run_delete (P := Try.prog) (ty := 0) (kt' := 3) hl keyOk3 Try.underlying75 k
    have hfin : DiskAt ((w.alloc (.cells (u8s s.1).toArray 80)).putObj m o) p m pv (D.store k s) ∧ Fr (· = m) w ((w.alloc (.cells (u8s s.1).toArray 80)).putObj m o) := by
      refine ⟨hW.setMap hl2 (fun j => ?_), hF0.putObj m o (fun _ => rfl)⟩
      rw [aget_adel _ _ _ hnd, hg, if_pos hs]
    have HF := Lib.hid hfin
    clear hfin hl2 hl hg hnd hW hF0 h
    have HS := Lib.hid hs
    clear hs
    go_enter Try.func40, Try.ntmps40
    iterate 3 go_step
    refine wl rfl (r_boxA rfl rfl) ?_
    iterate 6 go_step
    refine wl rfl (r_load rfl rfl hr80 Try.underlying80 rfl (by rw [sz80, hlen.out])) ?_
    refine wl rfl (r_build (vs := []) rfl rfl (build80 _)) ?_
    refine wl rfl (r_eql (u1 := .agg (u8s s.1).toArray) (u2 := .agg (u8s zeroSec.1).toArray) rfl rfl rfl (guard80 _ _ _ _ _) (eq80 s zeroSec _)) ?_
    rw [show decide (s = zeroSec) = true from decide_eq_true HS.out]
    clear hr80
    generalize (u8s zeroSec.1).toArray = z0
    simp only [Act.put, List.setIfInBounds_toArray, List.set_cons_zero, List.set_cons_succ]
    go_wp2
    exact bodyPost_ret (results_none rfl _ _ _) rfl ⟨rfl, HF.out⟩
  · obtain ⟨o, hup, hl2⟩ : ∃ o, (Instr.mapUpdate 75 (.map (some m)) (.int .i64 k) (secV s)).run Try.prog (w.alloc (.cells (u8s s.1).toArray 80)).drew = .ok () ((w.alloc (.cells (u8s s.1).toArray 80)).drew.putObj m o) ∧ MapAt ((w.alloc (.cells (u8s s.1).toArray 80)).drew.putObj m o) m (fun n : Int => Value.int .i64 n) secV (aput k s l) := run_update (P := Try.prog) hl.drew keyOk3 Try.underlying75 k s
    have hfin : DiskAt ((w.alloc (.cells (u8s s.1).toArray 80)).drew.putObj m o) p m pv (D.store k s) ∧ Fr (· = m) w ((w.alloc (.cells (u8s s.1).toArray 80)).drew.putObj m o) := by
      refine ⟨DiskAt.setMap (w := (w.alloc (.cells (u8s s.1).toArray 80)).drew) (hW.drewN 1) hl2 (fun j => ?_), hF0.drew.putObj m o (fun _ => rfl)⟩
      rw [aget_aput, hg, if_neg hs]
    have HF := Lib.hid hfin
    have hr2 := Lib.hid hr80
    clear hr80
    clear hfin hl2 hl hg hnd hW hF0 h
    have HS := Lib.hid hs
    clear hs
    go_enter Try.func40, Try.ntmps40
    iterate 3 go_step
    refine wl rfl (r_boxA rfl rfl) ?_
    iterate 6 go_step
    refine wl rfl (r_load rfl rfl hr2.out Try.underlying80 rfl (by rw [sz80, hlen.out])) ?_
    refine wl rfl (r_build (vs := []) rfl rfl (build80 _)) ?_
    refine wl rfl (r_eql (u1 := .agg (u8s s.1).toArray) (u2 := .agg (u8s zeroSec.1).toArray) rfl rfl rfl (guard80 _ _ _ _ _) (eq80 s zeroSec _)) ?_
    rw [show decide (s = zeroSec) = false from decide_eq_false HS.out]
    generalize (u8s zeroSec.1).toArray = z0
    simp only [Act.put, List.setIfInBounds_toArray, List.set_cons_zero, List.set_cons_succ]
    go_wp2_with fail
    refine rt 6 (by kernel_rfl) (by kernel_rfl) ?_
    simp only [List.take_succ_cons, List.take_zero, List.drop_succ_cons, List.drop_zero]
    iterate 5 still_step
    refine ws rfl (r_load rfl rfl (by simpa using hr2.out) Try.underlying80 rfl (by rw [sz80, hlen.out])) ?_
    refine ws_nil ?_
    refine wu rfl (r_mapUpdate rfl rfl rfl rfl hup) ?_
    go_wp2
    go_end0
    exact ⟨rfl, HF.out⟩
end Go.Proofs.Yticgkbpmaakkiaa
