/-
  Equal of two devices.
-/
import Derived.Test.YticgkbpmaakkiaaDm0q
import Derived.Test.YticgkbpmaakkiaaOp2toRg3q
namespace Go.Proofs.Yticgkbpmaakkiaa
open Go.RowKit

/-- The same state. -/
def EqD (D D' : Dsk) : Prop := D.limited = D'.limited ∧ (D.limited = true → D.limit = D'.limit) ∧ D.n = D'.n ∧ D.down = D'.down ∧ D.dur = D'.dur ∧ D.pend = D'.pend
theorem run_eqlB {P : Program} {o : Oper} {a : Act} {w : World} {t ty : TypeId} {x y : Operand} {b c d : Bool} (ho : o.op = .binOp .eql t x y ty) (ht : P.underlying t = some .bool) (hx : a.eval x = .bool b) (hy : a.eval y = .bool c) (hd : (b == c) = d) : RunV P o a w (.bool d) w := by
  subst hd
  unfold RunV execOp
  simp only [ho, hx, hy]
  go_simp

theorem r_neqI {P : Program} {o : Oper} {a : Act} {w : World} {t ty : TypeId} {x y : Operand} {b c : Int} {d : Bool} (ho : o.op = .binOp .neq t x y ty) (ht : P.underlying t = some (.int .i64)) (hx : a.eval x = .int .i64 b) (hy : a.eval y = .int .i64 c) (hd : (!(b == c)) = d) : RunV P o a w (.bool d) w := by
  subst hd
  unfold RunV execOp
  simp only [ho, hx, hy]
  go_simp
  rfl

set_option linter.unusedVariables false in
set_option maxRecDepth 100000 in
set_option maxHeartbeats 2000000 in
theorem Equal_lim_true (w : World) (p m : Nat) (a : Option Addr) (cap : Nat) (D : Dsk) (p' m' : Nat) (a' : Option Addr) (cap' : Nat) (D' : Dsk) (h : DiskAt w p m (.slice a D.pend.length cap) D) (h' : DiskAt w p' m' (.slice a' D'.pend.length cap') D') (hl : D.pend.length ≤ 100000) (e1 : D.limited = true) (e2 : D'.limited = false) :
    Calls Try.prog 31 #[.pointer (some ⟨p, 0, none⟩), .pointer (some ⟨p', 0, none⟩)] w fun e w' => BoolIs w w' e (EqD D D') := by
  have HA0 : Hid (∀ W, Fr Non w W → W.cell? ⟨p, 0, none⟩ = some (.int .i64 D.n)) := fun W hW => (h.fr hW (fun _ _ h => h)).cell.1
  have HA1 : Hid (∀ W, Fr Non w W → W.cell? ⟨p, 1, none⟩ = some (.map (some m))) := fun W hW => (h.fr hW (fun _ _ h => h)).cell.2.1
  have HA2 : Hid (∀ W, Fr Non w W → W.cell? ⟨p, 2, none⟩ = some (.slice a D.pend.length cap)) := fun W hW => (h.fr hW (fun _ _ h => h)).cell.2.2.1
  have HA4 : Hid (∀ W, Fr Non w W → W.cell? ⟨p, 4, none⟩ = some (.bool D.limited)) := fun W hW => (h.fr hW (fun _ _ h => h)).cell.2.2.2.2.1
  have HA5 : Hid (∀ W, Fr Non w W → W.cell? ⟨p, 5, none⟩ = some (.int .i64 D.limit)) := fun W hW => (h.fr hW (fun _ _ h => h)).cell.2.2.2.2.2.1
  have HA6 : Hid (∀ W, Fr Non w W → W.cell? ⟨p, 6, none⟩ = some (.bool D.down)) := fun W hW => (h.fr hW (fun _ _ h => h)).cell.2.2.2.2.2.2
  have HB0 : Hid (∀ W, Fr Non w W → W.cell? ⟨p', 0, none⟩ = some (.int .i64 D'.n)) := fun W hW => (h'.fr hW (fun _ _ h => h)).cell.1
  have HB1 : Hid (∀ W, Fr Non w W → W.cell? ⟨p', 1, none⟩ = some (.map (some m'))) := fun W hW => (h'.fr hW (fun _ _ h => h)).cell.2.1
  have HB2 : Hid (∀ W, Fr Non w W → W.cell? ⟨p', 2, none⟩ = some (.slice a' D'.pend.length cap')) := fun W hW => (h'.fr hW (fun _ _ h => h)).cell.2.2.1
  have HB4 : Hid (∀ W, Fr Non w W → W.cell? ⟨p', 4, none⟩ = some (.bool D'.limited)) := fun W hW => (h'.fr hW (fun _ _ h => h)).cell.2.2.2.2.1
  have HB5 : Hid (∀ W, Fr Non w W → W.cell? ⟨p', 5, none⟩ = some (.int .i64 D'.limit)) := fun W hW => (h'.fr hW (fun _ _ h => h)).cell.2.2.2.2.2.1
  have HB6 : Hid (∀ W, Fr Non w W → W.cell? ⟨p', 6, none⟩ = some (.bool D'.down)) := fun W hW => (h'.fr hW (fun _ _ h => h)).cell.2.2.2.2.2.2
  rw [e1] at HA4
  rw [e2] at HB4
  have HNE := Lib.hid (show D.limited ≠ D'.limited from by rw [e1, e2]; simp)
  clear e1 e2
  clear h h' hl
  go_enter Try.func31, Try.ntmps31
  go_wp2_with fail
  refine rc (fun W : World => Fr Non w W) 25 (by kernel_rfl) ?_
  have hS : (fun W : World => Fr Non w W) w.drew := (Fr.refl _ w).drew
  refine tp (i := 0) (v := .pointer (some ⟨p, 0, none⟩)) rfl (by kernel_rfl) (fun _ _ _ h => h) rfl (fun W0 => by unfold RunV; go_simp) (.inr hS) ?_
  simp only [Act.put, List.setIfInBounds_toArray, List.set_cons_zero, List.set_cons_succ]
  refine tp (i := 1) (v := .pointer (some ⟨p, 0, none⟩)) rfl (by kernel_rfl) (fun _ _ _ h => h) rfl (fun W0 => by unfold RunV; go_simp) (.inr hS) ?_
  simp only [Act.put, List.setIfInBounds_toArray, List.set_cons_zero, List.set_cons_succ]
  refine tp (i := 2) (v := .pointer (some ⟨p, 4, none⟩)) rfl (by kernel_rfl) (fun _ _ _ h => h) rfl (fun W0 => by unfold RunV; go_simp) (.inr hS) ?_
  simp only [Act.put, List.setIfInBounds_toArray, List.set_cons_zero, List.set_cons_succ]
  refine tp (i := 4) (v := .pointer (some ⟨p', 0, none⟩)) rfl (by kernel_rfl) (fun _ _ _ h => h) rfl (fun W0 => by unfold RunV; go_simp) (.inr hS) ?_
  simp only [Act.put, List.setIfInBounds_toArray, List.set_cons_zero, List.set_cons_succ]
  refine tp (i := 5) (v := .pointer (some ⟨p', 0, none⟩)) rfl (by kernel_rfl) (fun _ _ _ h => h) rfl (fun W0 => by unfold RunV; go_simp) (.inr hS) ?_
  simp only [Act.put, List.setIfInBounds_toArray, List.set_cons_zero, List.set_cons_succ]
  refine tp (i := 6) (v := .pointer (some ⟨p', 4, none⟩)) rfl (by kernel_rfl) (fun _ _ _ h => h) rfl (fun W0 => by unfold RunV; go_simp) (.inr hS) ?_
  simp only [Act.put, List.setIfInBounds_toArray, List.set_cons_zero, List.set_cons_succ]
  refine tc (i := 3) (v := .bool true) rfl 8 (by kernel_rfl) (fun _ _ _ h => h) rfl (fun W0 hw => r_load1 rfl rfl (HA4.out W0 hw) (Try.isAgg4 _)) hS ?_
  simp only [Act.put, List.setIfInBounds_toArray, List.set_cons_zero, List.set_cons_succ]
  refine tc (i := 7) (v := .bool false) rfl 8 (by kernel_rfl) (fun _ _ _ h => h) rfl (fun W0 hw => r_load1 rfl rfl (HB4.out W0 hw) (Try.isAgg4 _)) hS ?_
  simp only [Act.put, List.setIfInBounds_toArray, List.set_cons_zero, List.set_cons_succ]
  refine tp (i := 8) (v := .bool true) rfl (by kernel_rfl) (fun _ _ _ h => h) rfl (fun W0 => by unfold RunV; go_simp) (.inr hS) ?_
  simp only [Act.put, List.setIfInBounds_toArray, List.set_cons_zero, List.set_cons_succ]
  refine tp (i := 9) (v := .bool true) rfl (by kernel_rfl) (fun _ _ _ h => h) rfl (fun W0 => by unfold RunV; go_simp) (.inr hS) ?_
  simp only [Act.put, List.setIfInBounds_toArray, List.set_cons_zero, List.set_cons_succ]
  refine tpn (i := 10) rfl (by kernel_rfl) (fun _ _ _ h => h) rfl (.inr hS) ?_
  simp only [Act.put, List.setIfInBounds_toArray, List.set_cons_zero, List.set_cons_succ]
  refine tpn (i := 11) rfl (by kernel_rfl) (fun _ _ _ h => h) rfl (.inr hS) ?_
  simp only [Act.put, List.setIfInBounds_toArray, List.set_cons_zero, List.set_cons_succ]
  refine tpn (i := 12) rfl (by kernel_rfl) (fun _ _ _ h => h) rfl (.inr hS) ?_
  simp only [Act.put, List.setIfInBounds_toArray, List.set_cons_zero, List.set_cons_succ]
  refine tpn (i := 13) rfl (by kernel_rfl) (fun _ _ _ h => h) rfl (.inr hS) ?_
  simp only [Act.put, List.setIfInBounds_toArray, List.set_cons_zero, List.set_cons_succ]
  refine tpn (i := 14) rfl (by kernel_rfl) (fun _ _ _ h => h) rfl (.inr hS) ?_
  simp only [Act.put, List.setIfInBounds_toArray, List.set_cons_zero, List.set_cons_succ]
  refine tpn (i := 15) rfl (by kernel_rfl) (fun _ _ _ h => h) rfl (.inr hS) ?_
  simp only [Act.put, List.setIfInBounds_toArray, List.set_cons_zero, List.set_cons_succ]
  refine tpn (i := 16) rfl (by kernel_rfl) (fun _ _ _ h => h) rfl (.inr hS) ?_
  simp only [Act.put, List.setIfInBounds_toArray, List.set_cons_zero, List.set_cons_succ]
  refine tpn (i := 17) rfl (by kernel_rfl) (fun _ _ _ h => h) rfl (.inr hS) ?_
  simp only [Act.put, List.setIfInBounds_toArray, List.set_cons_zero, List.set_cons_succ]
  refine tpn (i := 19) rfl (by kernel_rfl) (fun _ _ _ h => h) rfl (.inr hS) ?_
  simp only [Act.put, List.setIfInBounds_toArray, List.set_cons_zero, List.set_cons_succ]
  refine tpn (i := 20) rfl (by kernel_rfl) (fun _ _ _ h => h) rfl (.inr hS) ?_
  simp only [Act.put, List.setIfInBounds_toArray, List.set_cons_zero, List.set_cons_succ]
  refine tpn (i := 21) rfl (by kernel_rfl) (fun _ _ _ h => h) rfl (.inr hS) ?_
  simp only [Act.put, List.setIfInBounds_toArray, List.set_cons_zero, List.set_cons_succ]
  refine tpn (i := 18) rfl (by kernel_rfl) (fun _ _ _ h => h) rfl (.inr hS) ?_
  simp only [Act.put, List.setIfInBounds_toArray, List.set_cons_zero, List.set_cons_succ]
  refine tpn (i := 22) rfl (by kernel_rfl) (fun _ _ _ h => h) rfl (.inr hS) ?_
  simp only [Act.put, List.setIfInBounds_toArray, List.set_cons_zero, List.set_cons_succ]
  refine tpn (i := 23) rfl (by kernel_rfl) (fun _ _ _ h => h) rfl (.inr hS) ?_
  simp only [Act.put, List.setIfInBounds_toArray, List.set_cons_zero, List.set_cons_succ]
  refine tpn (i := 24) rfl (by kernel_rfl) (fun _ _ _ h => h) rfl (.inr hS) ?_
  simp only [Act.put, List.setIfInBounds_toArray, List.set_cons_zero, List.set_cons_succ]
  refine oc2 (i := 25) (v := .bool true) rfl (by kernel_rfl) rfl (by kernel_rfl) (r_pick (b := true) rfl rfl rfl) ?_
  simp only [Act.put, List.setIfInBounds_toArray, List.set_cons_zero, List.set_cons_succ]
  refine dc (by kernel_rfl) ?_
  clear hS
  go_wp2_with fail
  go_ret
  exact ⟨false, rfl, ⟨fun h => (by cases h), fun h => absurd h.1 HNE.out⟩, (Fr.refl _ w).drew⟩
set_option linter.unusedVariables false in
set_option maxRecDepth 100000 in
set_option maxHeartbeats 2000000 in
theorem Equal_lim_false (w : World) (p m : Nat) (a : Option Addr) (cap : Nat) (D : Dsk) (p' m' : Nat) (a' : Option Addr) (cap' : Nat) (D' : Dsk) (h : DiskAt w p m (.slice a D.pend.length cap) D) (h' : DiskAt w p' m' (.slice a' D'.pend.length cap') D') (hl : D.pend.length ≤ 100000) (e1 : D.limited = false) (e2 : D'.limited = true) :
    Calls Try.prog 31 #[.pointer (some ⟨p, 0, none⟩), .pointer (some ⟨p', 0, none⟩)] w fun e w' => BoolIs w w' e (EqD D D') := by
  have HA0 : Hid (∀ W, Fr Non w W → W.cell? ⟨p, 0, none⟩ = some (.int .i64 D.n)) := fun W hW => (h.fr hW (fun _ _ h => h)).cell.1
  have HA1 : Hid (∀ W, Fr Non w W → W.cell? ⟨p, 1, none⟩ = some (.map (some m))) := fun W hW => (h.fr hW (fun _ _ h => h)).cell.2.1
  have HA2 : Hid (∀ W, Fr Non w W → W.cell? ⟨p, 2, none⟩ = some (.slice a D.pend.length cap)) := fun W hW => (h.fr hW (fun _ _ h => h)).cell.2.2.1
  have HA4 : Hid (∀ W, Fr Non w W → W.cell? ⟨p, 4, none⟩ = some (.bool D.limited)) := fun W hW => (h.fr hW (fun _ _ h => h)).cell.2.2.2.2.1
  have HA5 : Hid (∀ W, Fr Non w W → W.cell? ⟨p, 5, none⟩ = some (.int .i64 D.limit)) := fun W hW => (h.fr hW (fun _ _ h => h)).cell.2.2.2.2.2.1
  have HA6 : Hid (∀ W, Fr Non w W → W.cell? ⟨p, 6, none⟩ = some (.bool D.down)) := fun W hW => (h.fr hW (fun _ _ h => h)).cell.2.2.2.2.2.2
  have HB0 : Hid (∀ W, Fr Non w W → W.cell? ⟨p', 0, none⟩ = some (.int .i64 D'.n)) := fun W hW => (h'.fr hW (fun _ _ h => h)).cell.1
  have HB1 : Hid (∀ W, Fr Non w W → W.cell? ⟨p', 1, none⟩ = some (.map (some m'))) := fun W hW => (h'.fr hW (fun _ _ h => h)).cell.2.1
  have HB2 : Hid (∀ W, Fr Non w W → W.cell? ⟨p', 2, none⟩ = some (.slice a' D'.pend.length cap')) := fun W hW => (h'.fr hW (fun _ _ h => h)).cell.2.2.1
  have HB4 : Hid (∀ W, Fr Non w W → W.cell? ⟨p', 4, none⟩ = some (.bool D'.limited)) := fun W hW => (h'.fr hW (fun _ _ h => h)).cell.2.2.2.2.1
  have HB5 : Hid (∀ W, Fr Non w W → W.cell? ⟨p', 5, none⟩ = some (.int .i64 D'.limit)) := fun W hW => (h'.fr hW (fun _ _ h => h)).cell.2.2.2.2.2.1
  have HB6 : Hid (∀ W, Fr Non w W → W.cell? ⟨p', 6, none⟩ = some (.bool D'.down)) := fun W hW => (h'.fr hW (fun _ _ h => h)).cell.2.2.2.2.2.2
  rw [e1] at HA4
  rw [e2] at HB4
  have HNE := Lib.hid (show D.limited ≠ D'.limited from by rw [e1, e2]; simp)
  clear e1 e2
  clear h h' hl
  go_enter Try.func31, Try.ntmps31
  go_wp2_with fail
  refine rc (fun W : World => Fr Non w W) 25 (by kernel_rfl) ?_
  have hS : (fun W : World => Fr Non w W) w.drew := (Fr.refl _ w).drew
  refine tp (i := 0) (v := .pointer (some ⟨p, 0, none⟩)) rfl (by kernel_rfl) (fun _ _ _ h => h) rfl (fun W0 => by unfold RunV; go_simp) (.inr hS) ?_
  simp only [Act.put, List.setIfInBounds_toArray, List.set_cons_zero, List.set_cons_succ]
  refine tp (i := 1) (v := .pointer (some ⟨p, 0, none⟩)) rfl (by kernel_rfl) (fun _ _ _ h => h) rfl (fun W0 => by unfold RunV; go_simp) (.inr hS) ?_
  simp only [Act.put, List.setIfInBounds_toArray, List.set_cons_zero, List.set_cons_succ]
  refine tp (i := 2) (v := .pointer (some ⟨p, 4, none⟩)) rfl (by kernel_rfl) (fun _ _ _ h => h) rfl (fun W0 => by unfold RunV; go_simp) (.inr hS) ?_
  simp only [Act.put, List.setIfInBounds_toArray, List.set_cons_zero, List.set_cons_succ]
  refine tp (i := 4) (v := .pointer (some ⟨p', 0, none⟩)) rfl (by kernel_rfl) (fun _ _ _ h => h) rfl (fun W0 => by unfold RunV; go_simp) (.inr hS) ?_
  simp only [Act.put, List.setIfInBounds_toArray, List.set_cons_zero, List.set_cons_succ]
  refine tp (i := 5) (v := .pointer (some ⟨p', 0, none⟩)) rfl (by kernel_rfl) (fun _ _ _ h => h) rfl (fun W0 => by unfold RunV; go_simp) (.inr hS) ?_
  simp only [Act.put, List.setIfInBounds_toArray, List.set_cons_zero, List.set_cons_succ]
  refine tp (i := 6) (v := .pointer (some ⟨p', 4, none⟩)) rfl (by kernel_rfl) (fun _ _ _ h => h) rfl (fun W0 => by unfold RunV; go_simp) (.inr hS) ?_
  simp only [Act.put, List.setIfInBounds_toArray, List.set_cons_zero, List.set_cons_succ]
  refine tc (i := 3) (v := .bool false) rfl 8 (by kernel_rfl) (fun _ _ _ h => h) rfl (fun W0 hw => r_load1 rfl rfl (HA4.out W0 hw) (Try.isAgg4 _)) hS ?_
  simp only [Act.put, List.setIfInBounds_toArray, List.set_cons_zero, List.set_cons_succ]
  refine tc (i := 7) (v := .bool true) rfl 8 (by kernel_rfl) (fun _ _ _ h => h) rfl (fun W0 hw => r_load1 rfl rfl (HB4.out W0 hw) (Try.isAgg4 _)) hS ?_
  simp only [Act.put, List.setIfInBounds_toArray, List.set_cons_zero, List.set_cons_succ]
  refine tp (i := 8) (v := .bool true) rfl (by kernel_rfl) (fun _ _ _ h => h) rfl (fun W0 => by unfold RunV; go_simp) (.inr hS) ?_
  simp only [Act.put, List.setIfInBounds_toArray, List.set_cons_zero, List.set_cons_succ]
  refine tp (i := 9) (v := .bool true) rfl (by kernel_rfl) (fun _ _ _ h => h) rfl (fun W0 => by unfold RunV; go_simp) (.inr hS) ?_
  simp only [Act.put, List.setIfInBounds_toArray, List.set_cons_zero, List.set_cons_succ]
  refine tpn (i := 10) rfl (by kernel_rfl) (fun _ _ _ h => h) rfl (.inr hS) ?_
  simp only [Act.put, List.setIfInBounds_toArray, List.set_cons_zero, List.set_cons_succ]
  refine tpn (i := 11) rfl (by kernel_rfl) (fun _ _ _ h => h) rfl (.inr hS) ?_
  simp only [Act.put, List.setIfInBounds_toArray, List.set_cons_zero, List.set_cons_succ]
  refine tpn (i := 12) rfl (by kernel_rfl) (fun _ _ _ h => h) rfl (.inr hS) ?_
  simp only [Act.put, List.setIfInBounds_toArray, List.set_cons_zero, List.set_cons_succ]
  refine tpn (i := 13) rfl (by kernel_rfl) (fun _ _ _ h => h) rfl (.inr hS) ?_
  simp only [Act.put, List.setIfInBounds_toArray, List.set_cons_zero, List.set_cons_succ]
  refine tpn (i := 14) rfl (by kernel_rfl) (fun _ _ _ h => h) rfl (.inr hS) ?_
  simp only [Act.put, List.setIfInBounds_toArray, List.set_cons_zero, List.set_cons_succ]
  refine tpn (i := 15) rfl (by kernel_rfl) (fun _ _ _ h => h) rfl (.inr hS) ?_
  simp only [Act.put, List.setIfInBounds_toArray, List.set_cons_zero, List.set_cons_succ]
  refine tpn (i := 16) rfl (by kernel_rfl) (fun _ _ _ h => h) rfl (.inr hS) ?_
  simp only [Act.put, List.setIfInBounds_toArray, List.set_cons_zero, List.set_cons_succ]
  refine tpn (i := 17) rfl (by kernel_rfl) (fun _ _ _ h => h) rfl (.inr hS) ?_
  simp only [Act.put, List.setIfInBounds_toArray, List.set_cons_zero, List.set_cons_succ]
  refine tpn (i := 19) rfl (by kernel_rfl) (fun _ _ _ h => h) rfl (.inr hS) ?_
  simp only [Act.put, List.setIfInBounds_toArray, List.set_cons_zero, List.set_cons_succ]
  refine tpn (i := 20) rfl (by kernel_rfl) (fun _ _ _ h => h) rfl (.inr hS) ?_
  simp only [Act.put, List.setIfInBounds_toArray, List.set_cons_zero, List.set_cons_succ]
  refine tpn (i := 21) rfl (by kernel_rfl) (fun _ _ _ h => h) rfl (.inr hS) ?_
  simp only [Act.put, List.setIfInBounds_toArray, List.set_cons_zero, List.set_cons_succ]
  refine tpn (i := 18) rfl (by kernel_rfl) (fun _ _ _ h => h) rfl (.inr hS) ?_
  simp only [Act.put, List.setIfInBounds_toArray, List.set_cons_zero, List.set_cons_succ]
  refine tpn (i := 22) rfl (by kernel_rfl) (fun _ _ _ h => h) rfl (.inr hS) ?_
  simp only [Act.put, List.setIfInBounds_toArray, List.set_cons_zero, List.set_cons_succ]
  refine tpn (i := 23) rfl (by kernel_rfl) (fun _ _ _ h => h) rfl (.inr hS) ?_
  simp only [Act.put, List.setIfInBounds_toArray, List.set_cons_zero, List.set_cons_succ]
  refine tpn (i := 24) rfl (by kernel_rfl) (fun _ _ _ h => h) rfl (.inr hS) ?_
  simp only [Act.put, List.setIfInBounds_toArray, List.set_cons_zero, List.set_cons_succ]
  refine oc2 (i := 25) (v := .bool true) rfl (by kernel_rfl) rfl (by kernel_rfl) (r_pick (b := true) rfl rfl rfl) ?_
  simp only [Act.put, List.setIfInBounds_toArray, List.set_cons_zero, List.set_cons_succ]
  refine dc (by kernel_rfl) ?_
  clear hS
  go_wp2_with fail
  go_ret
  exact ⟨false, rfl, ⟨fun h => (by cases h), fun h => absurd h.1 HNE.out⟩, (Fr.refl _ w).drew⟩
set_option linter.unusedVariables false in
set_option maxRecDepth 100000 in
set_option maxHeartbeats 2000000 in
theorem Equal_limit (w : World) (p m : Nat) (a : Option Addr) (cap : Nat) (D : Dsk) (p' m' : Nat) (a' : Option Addr) (cap' : Nat) (D' : Dsk) (h : DiskAt w p m (.slice a D.pend.length cap) D) (h' : DiskAt w p' m' (.slice a' D'.pend.length cap') D') (hl : D.pend.length ≤ 100000) (e1 : D.limited = true) (e2 : D'.limited = true) (e3 : D.limit ≠ D'.limit) :
    Calls Try.prog 31 #[.pointer (some ⟨p, 0, none⟩), .pointer (some ⟨p', 0, none⟩)] w fun e w' => BoolIs w w' e (EqD D D') := by
  have HA0 : Hid (∀ W, Fr Non w W → W.cell? ⟨p, 0, none⟩ = some (.int .i64 D.n)) := fun W hW => (h.fr hW (fun _ _ h => h)).cell.1
  have HA1 : Hid (∀ W, Fr Non w W → W.cell? ⟨p, 1, none⟩ = some (.map (some m))) := fun W hW => (h.fr hW (fun _ _ h => h)).cell.2.1
  have HA2 : Hid (∀ W, Fr Non w W → W.cell? ⟨p, 2, none⟩ = some (.slice a D.pend.length cap)) := fun W hW => (h.fr hW (fun _ _ h => h)).cell.2.2.1
  have HA4 : Hid (∀ W, Fr Non w W → W.cell? ⟨p, 4, none⟩ = some (.bool D.limited)) := fun W hW => (h.fr hW (fun _ _ h => h)).cell.2.2.2.2.1
  have HA5 : Hid (∀ W, Fr Non w W → W.cell? ⟨p, 5, none⟩ = some (.int .i64 D.limit)) := fun W hW => (h.fr hW (fun _ _ h => h)).cell.2.2.2.2.2.1
  have HA6 : Hid (∀ W, Fr Non w W → W.cell? ⟨p, 6, none⟩ = some (.bool D.down)) := fun W hW => (h.fr hW (fun _ _ h => h)).cell.2.2.2.2.2.2
  have HB0 : Hid (∀ W, Fr Non w W → W.cell? ⟨p', 0, none⟩ = some (.int .i64 D'.n)) := fun W hW => (h'.fr hW (fun _ _ h => h)).cell.1
  have HB1 : Hid (∀ W, Fr Non w W → W.cell? ⟨p', 1, none⟩ = some (.map (some m'))) := fun W hW => (h'.fr hW (fun _ _ h => h)).cell.2.1
  have HB2 : Hid (∀ W, Fr Non w W → W.cell? ⟨p', 2, none⟩ = some (.slice a' D'.pend.length cap')) := fun W hW => (h'.fr hW (fun _ _ h => h)).cell.2.2.1
  have HB4 : Hid (∀ W, Fr Non w W → W.cell? ⟨p', 4, none⟩ = some (.bool D'.limited)) := fun W hW => (h'.fr hW (fun _ _ h => h)).cell.2.2.2.2.1
  have HB5 : Hid (∀ W, Fr Non w W → W.cell? ⟨p', 5, none⟩ = some (.int .i64 D'.limit)) := fun W hW => (h'.fr hW (fun _ _ h => h)).cell.2.2.2.2.2.1
  have HB6 : Hid (∀ W, Fr Non w W → W.cell? ⟨p', 6, none⟩ = some (.bool D'.down)) := fun W hW => (h'.fr hW (fun _ _ h => h)).cell.2.2.2.2.2.2
  rw [e1] at HA4
  rw [e2] at HB4
  have HNE : Hid (¬ (D.limited = true → D.limit = D'.limit)) := fun h => e3 (h e1)
  have hne : (D.limit == D'.limit) = false := by simp [e3]
  clear e1 e2 e3
  clear h h' hl
  go_enter Try.func31, Try.ntmps31
  go_wp2_with fail
  refine rc (fun W : World => Fr Non w W) 25 (by kernel_rfl) ?_
  have hS : (fun W : World => Fr Non w W) w.drew := (Fr.refl _ w).drew
  refine tp (i := 0) (v := .pointer (some ⟨p, 0, none⟩)) rfl (by kernel_rfl) (fun _ _ _ h => h) rfl (fun W0 => by unfold RunV; go_simp) (.inr hS) ?_
  simp only [Act.put, List.setIfInBounds_toArray, List.set_cons_zero, List.set_cons_succ]
  refine tp (i := 1) (v := .pointer (some ⟨p, 0, none⟩)) rfl (by kernel_rfl) (fun _ _ _ h => h) rfl (fun W0 => by unfold RunV; go_simp) (.inr hS) ?_
  simp only [Act.put, List.setIfInBounds_toArray, List.set_cons_zero, List.set_cons_succ]
  refine tp (i := 2) (v := .pointer (some ⟨p, 4, none⟩)) rfl (by kernel_rfl) (fun _ _ _ h => h) rfl (fun W0 => by unfold RunV; go_simp) (.inr hS) ?_
  simp only [Act.put, List.setIfInBounds_toArray, List.set_cons_zero, List.set_cons_succ]
  refine tp (i := 4) (v := .pointer (some ⟨p', 0, none⟩)) rfl (by kernel_rfl) (fun _ _ _ h => h) rfl (fun W0 => by unfold RunV; go_simp) (.inr hS) ?_
  simp only [Act.put, List.setIfInBounds_toArray, List.set_cons_zero, List.set_cons_succ]
  refine tp (i := 5) (v := .pointer (some ⟨p', 0, none⟩)) rfl (by kernel_rfl) (fun _ _ _ h => h) rfl (fun W0 => by unfold RunV; go_simp) (.inr hS) ?_
  simp only [Act.put, List.setIfInBounds_toArray, List.set_cons_zero, List.set_cons_succ]
  refine tp (i := 6) (v := .pointer (some ⟨p', 4, none⟩)) rfl (by kernel_rfl) (fun _ _ _ h => h) rfl (fun W0 => by unfold RunV; go_simp) (.inr hS) ?_
  simp only [Act.put, List.setIfInBounds_toArray, List.set_cons_zero, List.set_cons_succ]
  refine tc (i := 3) (v := .bool true) rfl 8 (by kernel_rfl) (fun _ _ _ h => h) rfl (fun W0 hw => r_load1 rfl rfl (HA4.out W0 hw) (Try.isAgg4 _)) hS ?_
  simp only [Act.put, List.setIfInBounds_toArray, List.set_cons_zero, List.set_cons_succ]
  refine tc (i := 7) (v := .bool true) rfl 8 (by kernel_rfl) (fun _ _ _ h => h) rfl (fun W0 hw => r_load1 rfl rfl (HB4.out W0 hw) (Try.isAgg4 _)) hS ?_
  simp only [Act.put, List.setIfInBounds_toArray, List.set_cons_zero, List.set_cons_succ]
  refine tp (i := 8) (v := .bool false) rfl (by kernel_rfl) (fun _ _ _ h => h) rfl (fun W0 => by unfold RunV; go_simp) (.inr hS) ?_
  simp only [Act.put, List.setIfInBounds_toArray, List.set_cons_zero, List.set_cons_succ]
  refine tp (i := 9) (v := .bool false) rfl (by kernel_rfl) (fun _ _ _ h => h) rfl (fun W0 => by unfold RunV; go_simp) (.inr hS) ?_
  simp only [Act.put, List.setIfInBounds_toArray, List.set_cons_zero, List.set_cons_succ]
  refine tpg (i := 10) (v := .pointer (some ⟨p, 0, none⟩)) rfl (by kernel_rfl) (fun _ _ _ h => h) rfl (fun W0 => r_move rfl rfl) (.inr hS) ?_
  simp only [Act.put, List.setIfInBounds_toArray, List.set_cons_zero, List.set_cons_succ]
  refine tpg (i := 11) (v := .pointer (some ⟨p, 0, none⟩)) rfl (by kernel_rfl) (fun _ _ _ h => h) rfl (fun W0 => by unfold RunV; go_simp) (.inr hS) ?_
  simp only [Act.put, List.setIfInBounds_toArray, List.set_cons_zero, List.set_cons_succ]
  refine tpg (i := 12) (v := .pointer (some ⟨p, 4, none⟩)) rfl (by kernel_rfl) (fun _ _ _ h => h) rfl (fun W0 => by unfold RunV; go_simp) (.inr hS) ?_
  simp only [Act.put, List.setIfInBounds_toArray, List.set_cons_zero, List.set_cons_succ]
  refine tcg (i := 13) (v := .bool true) rfl 8 (by kernel_rfl) (fun _ _ _ h => h) rfl (fun W0 hw => r_load1 rfl rfl (HA4.out W0 hw) (Try.isAgg4 _)) hS ?_
  simp only [Act.put, List.setIfInBounds_toArray, List.set_cons_zero, List.set_cons_succ]
  refine tpg (i := 14) (v := .bool true) rfl (by kernel_rfl) (fun _ _ _ h => h) rfl (fun W0 => r_move rfl rfl) (.inr hS) ?_
  simp only [Act.put, List.setIfInBounds_toArray, List.set_cons_zero, List.set_cons_succ]
  refine tpg (i := 15) (v := .pointer (some ⟨p, 0, none⟩)) rfl (by kernel_rfl) (fun _ _ _ h => h) rfl (fun W0 => r_move rfl rfl) (.inr hS) ?_
  simp only [Act.put, List.setIfInBounds_toArray, List.set_cons_zero, List.set_cons_succ]
  refine tpg (i := 16) (v := .pointer (some ⟨p, 0, none⟩)) rfl (by kernel_rfl) (fun _ _ _ h => h) rfl (fun W0 => by unfold RunV; go_simp) (.inr hS) ?_
  simp only [Act.put, List.setIfInBounds_toArray, List.set_cons_zero, List.set_cons_succ]
  refine tpg (i := 17) (v := .pointer (some ⟨p, 5, none⟩)) rfl (by kernel_rfl) (fun _ _ _ h => h) rfl (fun W0 => by unfold RunV; go_simp) (.inr hS) ?_
  simp only [Act.put, List.setIfInBounds_toArray, List.set_cons_zero, List.set_cons_succ]
  refine tpg (i := 19) (v := .pointer (some ⟨p', 0, none⟩)) rfl (by kernel_rfl) (fun _ _ _ h => h) rfl (fun W0 => r_move rfl rfl) (.inr hS) ?_
  simp only [Act.put, List.setIfInBounds_toArray, List.set_cons_zero, List.set_cons_succ]
  refine tpg (i := 20) (v := .pointer (some ⟨p', 0, none⟩)) rfl (by kernel_rfl) (fun _ _ _ h => h) rfl (fun W0 => by unfold RunV; go_simp) (.inr hS) ?_
  simp only [Act.put, List.setIfInBounds_toArray, List.set_cons_zero, List.set_cons_succ]
  refine tpg (i := 21) (v := .pointer (some ⟨p', 5, none⟩)) rfl (by kernel_rfl) (fun _ _ _ h => h) rfl (fun W0 => by unfold RunV; go_simp) (.inr hS) ?_
  simp only [Act.put, List.setIfInBounds_toArray, List.set_cons_zero, List.set_cons_succ]
  refine tcg (i := 18) (v := .int .i64 D.limit) rfl 8 (by kernel_rfl) (fun _ _ _ h => h) rfl (fun W0 hw => r_load1 rfl rfl (HA5.out W0 hw) (Try.isAgg3 _)) hS ?_
  simp only [Act.put, List.setIfInBounds_toArray, List.set_cons_zero, List.set_cons_succ]
  refine tcg (i := 22) (v := .int .i64 D'.limit) rfl 8 (by kernel_rfl) (fun _ _ _ h => h) rfl (fun W0 hw => r_load1 rfl rfl (HB5.out W0 hw) (Try.isAgg3 _)) hS ?_
  simp only [Act.put, List.setIfInBounds_toArray, List.set_cons_zero, List.set_cons_succ]
  refine tpg (i := 23) (v := .bool true) rfl (by kernel_rfl) (fun _ _ _ h => h) rfl (fun W0 => r_neqI rfl Try.underlying3 rfl rfl (by rw [hne]; rfl)) (.inr hS) ?_
  simp only [Act.put, List.setIfInBounds_toArray, List.set_cons_zero, List.set_cons_succ]
  refine tpg (i := 24) (v := .bool true) rfl (by kernel_rfl) (fun _ _ _ h => h) rfl (fun W0 => r_pick (b := true) rfl rfl rfl) (.inr hS) ?_
  simp only [Act.put, List.setIfInBounds_toArray, List.set_cons_zero, List.set_cons_succ]
  refine oc2 (i := 25) (v := .bool true) rfl (by kernel_rfl) rfl (by kernel_rfl) (r_pick (b := false) rfl rfl rfl) ?_
  simp only [Act.put, List.setIfInBounds_toArray, List.set_cons_zero, List.set_cons_succ]
  refine dc (by kernel_rfl) ?_
  clear hS
  go_wp2_with fail
  go_ret
  exact ⟨false, rfl, ⟨fun h => (by cases h), fun h => absurd h.2.1 HNE.out⟩, (Fr.refl _ w).drew⟩
set_option linter.unusedVariables false in
set_option maxRecDepth 100000 in
set_option maxHeartbeats 2000000 in
theorem Equal_true_n (w : World) (p m : Nat) (a : Option Addr) (cap : Nat) (D : Dsk) (p' m' : Nat) (a' : Option Addr) (cap' : Nat) (D' : Dsk) (h : DiskAt w p m (.slice a D.pend.length cap) D) (h' : DiskAt w p' m' (.slice a' D'.pend.length cap') D') (hl : D.pend.length ≤ 100000) (e1 : D.limited = true) (e2 : D'.limited = true) (e3 : D.limit = D'.limit) (e4 : D.n ≠ D'.n) :
    Calls Try.prog 31 #[.pointer (some ⟨p, 0, none⟩), .pointer (some ⟨p', 0, none⟩)] w fun e w' => BoolIs w w' e (EqD D D') := by
  have HA0 : Hid (∀ W, Fr Non w W → W.cell? ⟨p, 0, none⟩ = some (.int .i64 D.n)) := fun W hW => (h.fr hW (fun _ _ h => h)).cell.1
  have HA1 : Hid (∀ W, Fr Non w W → W.cell? ⟨p, 1, none⟩ = some (.map (some m))) := fun W hW => (h.fr hW (fun _ _ h => h)).cell.2.1
  have HA2 : Hid (∀ W, Fr Non w W → W.cell? ⟨p, 2, none⟩ = some (.slice a D.pend.length cap)) := fun W hW => (h.fr hW (fun _ _ h => h)).cell.2.2.1
  have HA4 : Hid (∀ W, Fr Non w W → W.cell? ⟨p, 4, none⟩ = some (.bool D.limited)) := fun W hW => (h.fr hW (fun _ _ h => h)).cell.2.2.2.2.1
  have HA5 : Hid (∀ W, Fr Non w W → W.cell? ⟨p, 5, none⟩ = some (.int .i64 D.limit)) := fun W hW => (h.fr hW (fun _ _ h => h)).cell.2.2.2.2.2.1
  have HA6 : Hid (∀ W, Fr Non w W → W.cell? ⟨p, 6, none⟩ = some (.bool D.down)) := fun W hW => (h.fr hW (fun _ _ h => h)).cell.2.2.2.2.2.2
  have HB0 : Hid (∀ W, Fr Non w W → W.cell? ⟨p', 0, none⟩ = some (.int .i64 D'.n)) := fun W hW => (h'.fr hW (fun _ _ h => h)).cell.1
  have HB1 : Hid (∀ W, Fr Non w W → W.cell? ⟨p', 1, none⟩ = some (.map (some m'))) := fun W hW => (h'.fr hW (fun _ _ h => h)).cell.2.1
  have HB2 : Hid (∀ W, Fr Non w W → W.cell? ⟨p', 2, none⟩ = some (.slice a' D'.pend.length cap')) := fun W hW => (h'.fr hW (fun _ _ h => h)).cell.2.2.1
  have HB4 : Hid (∀ W, Fr Non w W → W.cell? ⟨p', 4, none⟩ = some (.bool D'.limited)) := fun W hW => (h'.fr hW (fun _ _ h => h)).cell.2.2.2.2.1
  have HB5 : Hid (∀ W, Fr Non w W → W.cell? ⟨p', 5, none⟩ = some (.int .i64 D'.limit)) := fun W hW => (h'.fr hW (fun _ _ h => h)).cell.2.2.2.2.2.1
  have HB6 : Hid (∀ W, Fr Non w W → W.cell? ⟨p', 6, none⟩ = some (.bool D'.down)) := fun W hW => (h'.fr hW (fun _ _ h => h)).cell.2.2.2.2.2.2
  rw [e1] at HA4
  rw [e2] at HB4
  rw [← e3] at HB5
  have HNE : Hid (D.n ≠ D'.n) := e4
  have hne : (D.n == D'.n) = false := by simp [e4]
  clear e1 e2 e3 e4
  clear h h' hl
  go_enter Try.func31, Try.ntmps31
  go_wp2_with fail
  refine rc (fun W : World => Fr Non w W) 25 (by kernel_rfl) ?_
  have hS : (fun W : World => Fr Non w W) w.drew := (Fr.refl _ w).drew
  refine tp (i := 0) (v := .pointer (some ⟨p, 0, none⟩)) rfl (by kernel_rfl) (fun _ _ _ h => h) rfl (fun W0 => by unfold RunV; go_simp) (.inr hS) ?_
  simp only [Act.put, List.setIfInBounds_toArray, List.set_cons_zero, List.set_cons_succ]
  refine tp (i := 1) (v := .pointer (some ⟨p, 0, none⟩)) rfl (by kernel_rfl) (fun _ _ _ h => h) rfl (fun W0 => by unfold RunV; go_simp) (.inr hS) ?_
  simp only [Act.put, List.setIfInBounds_toArray, List.set_cons_zero, List.set_cons_succ]
  refine tp (i := 2) (v := .pointer (some ⟨p, 4, none⟩)) rfl (by kernel_rfl) (fun _ _ _ h => h) rfl (fun W0 => by unfold RunV; go_simp) (.inr hS) ?_
  simp only [Act.put, List.setIfInBounds_toArray, List.set_cons_zero, List.set_cons_succ]
  refine tp (i := 4) (v := .pointer (some ⟨p', 0, none⟩)) rfl (by kernel_rfl) (fun _ _ _ h => h) rfl (fun W0 => by unfold RunV; go_simp) (.inr hS) ?_
  simp only [Act.put, List.setIfInBounds_toArray, List.set_cons_zero, List.set_cons_succ]
  refine tp (i := 5) (v := .pointer (some ⟨p', 0, none⟩)) rfl (by kernel_rfl) (fun _ _ _ h => h) rfl (fun W0 => by unfold RunV; go_simp) (.inr hS) ?_
  simp only [Act.put, List.setIfInBounds_toArray, List.set_cons_zero, List.set_cons_succ]
  refine tp (i := 6) (v := .pointer (some ⟨p', 4, none⟩)) rfl (by kernel_rfl) (fun _ _ _ h => h) rfl (fun W0 => by unfold RunV; go_simp) (.inr hS) ?_
  simp only [Act.put, List.setIfInBounds_toArray, List.set_cons_zero, List.set_cons_succ]
  refine tc (i := 3) (v := .bool true) rfl 8 (by kernel_rfl) (fun _ _ _ h => h) rfl (fun W0 hw => r_load1 rfl rfl (HA4.out W0 hw) (Try.isAgg4 _)) hS ?_
  simp only [Act.put, List.setIfInBounds_toArray, List.set_cons_zero, List.set_cons_succ]
  refine tc (i := 7) (v := .bool true) rfl 8 (by kernel_rfl) (fun _ _ _ h => h) rfl (fun W0 hw => r_load1 rfl rfl (HB4.out W0 hw) (Try.isAgg4 _)) hS ?_
  simp only [Act.put, List.setIfInBounds_toArray, List.set_cons_zero, List.set_cons_succ]
  refine tp (i := 8) (v := .bool false) rfl (by kernel_rfl) (fun _ _ _ h => h) rfl (fun W0 => by unfold RunV; go_simp) (.inr hS) ?_
  simp only [Act.put, List.setIfInBounds_toArray, List.set_cons_zero, List.set_cons_succ]
  refine tp (i := 9) (v := .bool false) rfl (by kernel_rfl) (fun _ _ _ h => h) rfl (fun W0 => by unfold RunV; go_simp) (.inr hS) ?_
  simp only [Act.put, List.setIfInBounds_toArray, List.set_cons_zero, List.set_cons_succ]
  refine tpg (i := 10) (v := .pointer (some ⟨p, 0, none⟩)) rfl (by kernel_rfl) (fun _ _ _ h => h) rfl (fun W0 => r_move rfl rfl) (.inr hS) ?_
  simp only [Act.put, List.setIfInBounds_toArray, List.set_cons_zero, List.set_cons_succ]
  refine tpg (i := 11) (v := .pointer (some ⟨p, 0, none⟩)) rfl (by kernel_rfl) (fun _ _ _ h => h) rfl (fun W0 => by unfold RunV; go_simp) (.inr hS) ?_
  simp only [Act.put, List.setIfInBounds_toArray, List.set_cons_zero, List.set_cons_succ]
  refine tpg (i := 12) (v := .pointer (some ⟨p, 4, none⟩)) rfl (by kernel_rfl) (fun _ _ _ h => h) rfl (fun W0 => by unfold RunV; go_simp) (.inr hS) ?_
  simp only [Act.put, List.setIfInBounds_toArray, List.set_cons_zero, List.set_cons_succ]
  refine tcg (i := 13) (v := .bool true) rfl 8 (by kernel_rfl) (fun _ _ _ h => h) rfl (fun W0 hw => r_load1 rfl rfl (HA4.out W0 hw) (Try.isAgg4 _)) hS ?_
  simp only [Act.put, List.setIfInBounds_toArray, List.set_cons_zero, List.set_cons_succ]
  refine tpg (i := 14) (v := .bool true) rfl (by kernel_rfl) (fun _ _ _ h => h) rfl (fun W0 => r_move rfl rfl) (.inr hS) ?_
  simp only [Act.put, List.setIfInBounds_toArray, List.set_cons_zero, List.set_cons_succ]
  refine tpg (i := 15) (v := .pointer (some ⟨p, 0, none⟩)) rfl (by kernel_rfl) (fun _ _ _ h => h) rfl (fun W0 => r_move rfl rfl) (.inr hS) ?_
  simp only [Act.put, List.setIfInBounds_toArray, List.set_cons_zero, List.set_cons_succ]
  refine tpg (i := 16) (v := .pointer (some ⟨p, 0, none⟩)) rfl (by kernel_rfl) (fun _ _ _ h => h) rfl (fun W0 => by unfold RunV; go_simp) (.inr hS) ?_
  simp only [Act.put, List.setIfInBounds_toArray, List.set_cons_zero, List.set_cons_succ]
  refine tpg (i := 17) (v := .pointer (some ⟨p, 5, none⟩)) rfl (by kernel_rfl) (fun _ _ _ h => h) rfl (fun W0 => by unfold RunV; go_simp) (.inr hS) ?_
  simp only [Act.put, List.setIfInBounds_toArray, List.set_cons_zero, List.set_cons_succ]
  refine tpg (i := 19) (v := .pointer (some ⟨p', 0, none⟩)) rfl (by kernel_rfl) (fun _ _ _ h => h) rfl (fun W0 => r_move rfl rfl) (.inr hS) ?_
  simp only [Act.put, List.setIfInBounds_toArray, List.set_cons_zero, List.set_cons_succ]
  refine tpg (i := 20) (v := .pointer (some ⟨p', 0, none⟩)) rfl (by kernel_rfl) (fun _ _ _ h => h) rfl (fun W0 => by unfold RunV; go_simp) (.inr hS) ?_
  simp only [Act.put, List.setIfInBounds_toArray, List.set_cons_zero, List.set_cons_succ]
  refine tpg (i := 21) (v := .pointer (some ⟨p', 5, none⟩)) rfl (by kernel_rfl) (fun _ _ _ h => h) rfl (fun W0 => by unfold RunV; go_simp) (.inr hS) ?_
  simp only [Act.put, List.setIfInBounds_toArray, List.set_cons_zero, List.set_cons_succ]
  refine tcg (i := 18) (v := .int .i64 D.limit) rfl 8 (by kernel_rfl) (fun _ _ _ h => h) rfl (fun W0 hw => r_load1 rfl rfl (HA5.out W0 hw) (Try.isAgg3 _)) hS ?_
  simp only [Act.put, List.setIfInBounds_toArray, List.set_cons_zero, List.set_cons_succ]
  refine tcg (i := 22) (v := .int .i64 D.limit) rfl 8 (by kernel_rfl) (fun _ _ _ h => h) rfl (fun W0 hw => r_load1 rfl rfl (HB5.out W0 hw) (Try.isAgg3 _)) hS ?_
  simp only [Act.put, List.setIfInBounds_toArray, List.set_cons_zero, List.set_cons_succ]
  refine tpg (i := 23) (v := .bool false) rfl (by kernel_rfl) (fun _ _ _ h => h) rfl (fun W0 => r_neqI rfl Try.underlying3 rfl rfl (by simp)) (.inr hS) ?_
  simp only [Act.put, List.setIfInBounds_toArray, List.set_cons_zero, List.set_cons_succ]
  refine tpg (i := 24) (v := .bool false) rfl (by kernel_rfl) (fun _ _ _ h => h) rfl (fun W0 => r_pick (b := true) rfl rfl rfl) (.inr hS) ?_
  simp only [Act.put, List.setIfInBounds_toArray, List.set_cons_zero, List.set_cons_succ]
  refine oc2 (i := 25) (v := .bool false) rfl (by kernel_rfl) rfl (by kernel_rfl) (r_pick (b := false) rfl rfl rfl) ?_
  simp only [Act.put, List.setIfInBounds_toArray, List.set_cons_zero, List.set_cons_succ]
  refine dc (by kernel_rfl) ?_
  clear hS
  have HF1D : Hid (Fr Non w w.drew.drew) := ((Fr.refl _ w).drew).drew
  generalize w.drew = w1 at *
  go_wp2_with fail
  refine rc (fun W : World => Fr Non w W) 42 (by kernel_rfl) ?_
  have hS : (fun W : World => Fr Non w W) w1.drew := HF1D.out
  refine tp (i := 0) (v := .pointer (some ⟨p, 0, none⟩)) rfl (by kernel_rfl) (fun _ _ _ h => h) rfl (fun W0 => by unfold RunV; go_simp) (.inr hS) ?_
  simp only [Act.put, List.setIfInBounds_toArray, List.set_cons_zero, List.set_cons_succ]
  refine tp (i := 1) (v := .pointer (some ⟨p, 0, none⟩)) rfl (by kernel_rfl) (fun _ _ _ h => h) rfl (fun W0 => by unfold RunV; go_simp) (.inr hS) ?_
  simp only [Act.put, List.setIfInBounds_toArray, List.set_cons_zero, List.set_cons_succ]
  refine tp (i := 2) (v := .pointer (some ⟨p, 0, none⟩)) rfl (by kernel_rfl) (fun _ _ _ h => h) rfl (fun W0 => by unfold RunV; go_simp) (.inr hS) ?_
  simp only [Act.put, List.setIfInBounds_toArray, List.set_cons_zero, List.set_cons_succ]
  refine tp (i := 4) (v := .pointer (some ⟨p', 0, none⟩)) rfl (by kernel_rfl) (fun _ _ _ h => h) rfl (fun W0 => by unfold RunV; go_simp) (.inr hS) ?_
  simp only [Act.put, List.setIfInBounds_toArray, List.set_cons_zero, List.set_cons_succ]
  refine tp (i := 5) (v := .pointer (some ⟨p', 0, none⟩)) rfl (by kernel_rfl) (fun _ _ _ h => h) rfl (fun W0 => by unfold RunV; go_simp) (.inr hS) ?_
  simp only [Act.put, List.setIfInBounds_toArray, List.set_cons_zero, List.set_cons_succ]
  refine tp (i := 6) (v := .pointer (some ⟨p', 0, none⟩)) rfl (by kernel_rfl) (fun _ _ _ h => h) rfl (fun W0 => by unfold RunV; go_simp) (.inr hS) ?_
  simp only [Act.put, List.setIfInBounds_toArray, List.set_cons_zero, List.set_cons_succ]
  refine tc (i := 3) (v := .int .i64 D.n) rfl 8 (by kernel_rfl) (fun _ _ _ h => h) rfl (fun W0 hw => r_load1 rfl rfl (HA0.out W0 hw) (Try.isAgg3 _)) hS ?_
  simp only [Act.put, List.setIfInBounds_toArray, List.set_cons_zero, List.set_cons_succ]
  refine tc (i := 7) (v := .int .i64 D'.n) rfl 8 (by kernel_rfl) (fun _ _ _ h => h) rfl (fun W0 hw => r_load1 rfl rfl (HB0.out W0 hw) (Try.isAgg3 _)) hS ?_
  simp only [Act.put, List.setIfInBounds_toArray, List.set_cons_zero, List.set_cons_succ]
  refine tp (i := 8) (v := .bool false) rfl (by kernel_rfl) (fun _ _ _ h => h) rfl (fun W0 => by unfold RunV; go_simp) (.inr hS) ?_
  simp only [Act.put, List.setIfInBounds_toArray, List.set_cons_zero, List.set_cons_succ]
  refine tp (i := 9) (v := .bool false) rfl (by kernel_rfl) (fun _ _ _ h => h) rfl (fun W0 => by unfold RunV; go_simp) (.inr hS) ?_
  simp only [Act.put, List.setIfInBounds_toArray, List.set_cons_zero, List.set_cons_succ]
  refine tpn (i := 10) rfl (by kernel_rfl) (fun _ _ _ h => h) rfl (.inr hS) ?_
  simp only [Act.put, List.setIfInBounds_toArray, List.set_cons_zero, List.set_cons_succ]
  refine tpn (i := 11) rfl (by kernel_rfl) (fun _ _ _ h => h) rfl (.inr hS) ?_
  simp only [Act.put, List.setIfInBounds_toArray, List.set_cons_zero, List.set_cons_succ]
  refine tpn (i := 12) rfl (by kernel_rfl) (fun _ _ _ h => h) rfl (.inr hS) ?_
  simp only [Act.put, List.setIfInBounds_toArray, List.set_cons_zero, List.set_cons_succ]
  refine tpn (i := 14) rfl (by kernel_rfl) (fun _ _ _ h => h) rfl (.inr hS) ?_
  simp only [Act.put, List.setIfInBounds_toArray, List.set_cons_zero, List.set_cons_succ]
  refine tpn (i := 15) rfl (by kernel_rfl) (fun _ _ _ h => h) rfl (.inr hS) ?_
  simp only [Act.put, List.setIfInBounds_toArray, List.set_cons_zero, List.set_cons_succ]
  refine tpn (i := 16) rfl (by kernel_rfl) (fun _ _ _ h => h) rfl (.inr hS) ?_
  simp only [Act.put, List.setIfInBounds_toArray, List.set_cons_zero, List.set_cons_succ]
  refine tpn (i := 13) rfl (by kernel_rfl) (fun _ _ _ h => h) rfl (.inr hS) ?_
  simp only [Act.put, List.setIfInBounds_toArray, List.set_cons_zero, List.set_cons_succ]
  refine tpn (i := 17) rfl (by kernel_rfl) (fun _ _ _ h => h) rfl (.inr hS) ?_
  simp only [Act.put, List.setIfInBounds_toArray, List.set_cons_zero, List.set_cons_succ]
  refine tpn (i := 18) rfl (by kernel_rfl) (fun _ _ _ h => h) rfl (.inr hS) ?_
  simp only [Act.put, List.setIfInBounds_toArray, List.set_cons_zero, List.set_cons_succ]
  refine tp (i := 19) (v := .bool false) rfl (by kernel_rfl) (fun _ _ _ h => h) rfl (fun W0 => r_pick (b := false) rfl rfl rfl) (.inr hS) ?_
  simp only [Act.put, List.setIfInBounds_toArray, List.set_cons_zero, List.set_cons_succ]
  refine tp (i := 20) (v := .bool false) rfl (by kernel_rfl) (fun _ _ _ h => h) rfl (fun W0 => by unfold RunV; go_simp) (.inr hS) ?_
  simp only [Act.put, List.setIfInBounds_toArray, List.set_cons_zero, List.set_cons_succ]
  refine tpn (i := 21) rfl (by kernel_rfl) (fun _ _ _ h => h) rfl (.inr hS) ?_
  simp only [Act.put, List.setIfInBounds_toArray, List.set_cons_zero, List.set_cons_succ]
  refine tpn (i := 22) rfl (by kernel_rfl) (fun _ _ _ h => h) rfl (.inr hS) ?_
  simp only [Act.put, List.setIfInBounds_toArray, List.set_cons_zero, List.set_cons_succ]
  refine tpn (i := 23) rfl (by kernel_rfl) (fun _ _ _ h => h) rfl (.inr hS) ?_
  simp only [Act.put, List.setIfInBounds_toArray, List.set_cons_zero, List.set_cons_succ]
  refine tpn (i := 25) rfl (by kernel_rfl) (fun _ _ _ h => h) rfl (.inr hS) ?_
  simp only [Act.put, List.setIfInBounds_toArray, List.set_cons_zero, List.set_cons_succ]
  refine tpn (i := 26) rfl (by kernel_rfl) (fun _ _ _ h => h) rfl (.inr hS) ?_
  simp only [Act.put, List.setIfInBounds_toArray, List.set_cons_zero, List.set_cons_succ]
  refine tpn (i := 27) rfl (by kernel_rfl) (fun _ _ _ h => h) rfl (.inr hS) ?_
  simp only [Act.put, List.setIfInBounds_toArray, List.set_cons_zero, List.set_cons_succ]
  refine tpn (i := 24) rfl (by kernel_rfl) (fun _ _ _ h => h) rfl (.inr hS) ?_
  simp only [Act.put, List.setIfInBounds_toArray, List.set_cons_zero, List.set_cons_succ]
  refine tpn (i := 28) rfl (by kernel_rfl) (fun _ _ _ h => h) rfl (.inr hS) ?_
  simp only [Act.put, List.setIfInBounds_toArray, List.set_cons_zero, List.set_cons_succ]
  refine tpn (i := 29) rfl (by kernel_rfl) (fun _ _ _ h => h) rfl (.inr hS) ?_
  simp only [Act.put, List.setIfInBounds_toArray, List.set_cons_zero, List.set_cons_succ]
  refine tp (i := 30) (v := .bool false) rfl (by kernel_rfl) (fun _ _ _ h => h) rfl (fun W0 => r_pick (b := false) rfl rfl rfl) (.inr hS) ?_
  simp only [Act.put, List.setIfInBounds_toArray, List.set_cons_zero, List.set_cons_succ]
  refine tp (i := 31) (v := .bool false) rfl (by kernel_rfl) (fun _ _ _ h => h) rfl (fun W0 => by unfold RunV; go_simp) (.inr hS) ?_
  simp only [Act.put, List.setIfInBounds_toArray, List.set_cons_zero, List.set_cons_succ]
  refine tpn (i := 32) rfl (by kernel_rfl) (fun _ _ _ h => h) rfl (.inr hS) ?_
  simp only [Act.put, List.setIfInBounds_toArray, List.set_cons_zero, List.set_cons_succ]
  refine tpn (i := 33) rfl (by kernel_rfl) (fun _ _ _ h => h) rfl (.inr hS) ?_
  simp only [Act.put, List.setIfInBounds_toArray, List.set_cons_zero, List.set_cons_succ]
  refine tpn (i := 34) rfl (by kernel_rfl) (fun _ _ _ h => h) rfl (.inr hS) ?_
  simp only [Act.put, List.setIfInBounds_toArray, List.set_cons_zero, List.set_cons_succ]
  refine tpn (i := 36) rfl (by kernel_rfl) (fun _ _ _ h => h) rfl (.inr hS) ?_
  simp only [Act.put, List.setIfInBounds_toArray, List.set_cons_zero, List.set_cons_succ]
  refine tpn (i := 37) rfl (by kernel_rfl) (fun _ _ _ h => h) rfl (.inr hS) ?_
  simp only [Act.put, List.setIfInBounds_toArray, List.set_cons_zero, List.set_cons_succ]
  refine tpn (i := 38) rfl (by kernel_rfl) (fun _ _ _ h => h) rfl (.inr hS) ?_
  simp only [Act.put, List.setIfInBounds_toArray, List.set_cons_zero, List.set_cons_succ]
  refine tpn (i := 35) rfl (by kernel_rfl) (fun _ _ _ h => h) rfl (.inr hS) ?_
  simp only [Act.put, List.setIfInBounds_toArray, List.set_cons_zero, List.set_cons_succ]
  refine tpn (i := 39) rfl (by kernel_rfl) (fun _ _ _ h => h) rfl (.inr hS) ?_
  simp only [Act.put, List.setIfInBounds_toArray, List.set_cons_zero, List.set_cons_succ]
  refine tpn (i := 40) rfl (by kernel_rfl) (fun _ _ _ h => h) rfl (.inr hS) ?_
  simp only [Act.put, List.setIfInBounds_toArray, List.set_cons_zero, List.set_cons_succ]
  refine tp (i := 41) (v := .bool false) rfl (by kernel_rfl) (fun _ _ _ h => h) rfl (fun W0 => r_pick (b := false) rfl rfl rfl) (.inr hS) ?_
  simp only [Act.put, List.setIfInBounds_toArray, List.set_cons_zero, List.set_cons_succ]
  refine oc2 (i := 42) (v := .bool false) rfl (by kernel_rfl) rfl (by kernel_rfl) (r_assign rfl rfl) ?_
  simp only [Act.put, List.setIfInBounds_toArray, List.set_cons_zero, List.set_cons_succ]
  refine dc (by kernel_rfl) ?_
  clear hS
  go_wp2_with fail
  go_ret
  exact ⟨false, rfl, ⟨fun h => (by cases h), fun h => (absurd h.2.2.1 HNE.out)⟩, HF1D.out⟩
set_option linter.unusedVariables false in
set_option maxRecDepth 100000 in
set_option maxHeartbeats 2000000 in
theorem Equal_true_d (w : World) (p m : Nat) (a : Option Addr) (cap : Nat) (D : Dsk) (p' m' : Nat) (a' : Option Addr) (cap' : Nat) (D' : Dsk) (h : DiskAt w p m (.slice a D.pend.length cap) D) (h' : DiskAt w p' m' (.slice a' D'.pend.length cap') D') (hl : D.pend.length ≤ 100000) (e1 : D.limited = true) (e2 : D'.limited = true) (e3 : D.limit = D'.limit) (e4 : D.n = D'.n) (e5 : D.down ≠ D'.down) :
    Calls Try.prog 31 #[.pointer (some ⟨p, 0, none⟩), .pointer (some ⟨p', 0, none⟩)] w fun e w' => BoolIs w w' e (EqD D D') := by
  have HA0 : Hid (∀ W, Fr Non w W → W.cell? ⟨p, 0, none⟩ = some (.int .i64 D.n)) := fun W hW => (h.fr hW (fun _ _ h => h)).cell.1
  have HA1 : Hid (∀ W, Fr Non w W → W.cell? ⟨p, 1, none⟩ = some (.map (some m))) := fun W hW => (h.fr hW (fun _ _ h => h)).cell.2.1
  have HA2 : Hid (∀ W, Fr Non w W → W.cell? ⟨p, 2, none⟩ = some (.slice a D.pend.length cap)) := fun W hW => (h.fr hW (fun _ _ h => h)).cell.2.2.1
  have HA4 : Hid (∀ W, Fr Non w W → W.cell? ⟨p, 4, none⟩ = some (.bool D.limited)) := fun W hW => (h.fr hW (fun _ _ h => h)).cell.2.2.2.2.1
  have HA5 : Hid (∀ W, Fr Non w W → W.cell? ⟨p, 5, none⟩ = some (.int .i64 D.limit)) := fun W hW => (h.fr hW (fun _ _ h => h)).cell.2.2.2.2.2.1
  have HA6 : Hid (∀ W, Fr Non w W → W.cell? ⟨p, 6, none⟩ = some (.bool D.down)) := fun W hW => (h.fr hW (fun _ _ h => h)).cell.2.2.2.2.2.2
  have HB0 : Hid (∀ W, Fr Non w W → W.cell? ⟨p', 0, none⟩ = some (.int .i64 D'.n)) := fun W hW => (h'.fr hW (fun _ _ h => h)).cell.1
  have HB1 : Hid (∀ W, Fr Non w W → W.cell? ⟨p', 1, none⟩ = some (.map (some m'))) := fun W hW => (h'.fr hW (fun _ _ h => h)).cell.2.1
  have HB2 : Hid (∀ W, Fr Non w W → W.cell? ⟨p', 2, none⟩ = some (.slice a' D'.pend.length cap')) := fun W hW => (h'.fr hW (fun _ _ h => h)).cell.2.2.1
  have HB4 : Hid (∀ W, Fr Non w W → W.cell? ⟨p', 4, none⟩ = some (.bool D'.limited)) := fun W hW => (h'.fr hW (fun _ _ h => h)).cell.2.2.2.2.1
  have HB5 : Hid (∀ W, Fr Non w W → W.cell? ⟨p', 5, none⟩ = some (.int .i64 D'.limit)) := fun W hW => (h'.fr hW (fun _ _ h => h)).cell.2.2.2.2.2.1
  have HB6 : Hid (∀ W, Fr Non w W → W.cell? ⟨p', 6, none⟩ = some (.bool D'.down)) := fun W hW => (h'.fr hW (fun _ _ h => h)).cell.2.2.2.2.2.2
  rw [e1] at HA4
  rw [e2] at HB4
  rw [← e3] at HB5
  rw [← e4] at HB0
  have HND : Hid (D.down ≠ D'.down) := e5
  have HNE : Hid ((D.down == D'.down) = false) := by have := e5; cases h1 : D.down <;> cases h2 : D'.down <;> simp_all
  clear e1 e2 e3 e4 e5
  clear h h' hl
  go_enter Try.func31, Try.ntmps31
  go_wp2_with fail
  refine rc (fun W : World => Fr Non w W) 25 (by kernel_rfl) ?_
  have hS : (fun W : World => Fr Non w W) w.drew := (Fr.refl _ w).drew
  refine tp (i := 0) (v := .pointer (some ⟨p, 0, none⟩)) rfl (by kernel_rfl) (fun _ _ _ h => h) rfl (fun W0 => by unfold RunV; go_simp) (.inr hS) ?_
  simp only [Act.put, List.setIfInBounds_toArray, List.set_cons_zero, List.set_cons_succ]
  refine tp (i := 1) (v := .pointer (some ⟨p, 0, none⟩)) rfl (by kernel_rfl) (fun _ _ _ h => h) rfl (fun W0 => by unfold RunV; go_simp) (.inr hS) ?_
  simp only [Act.put, List.setIfInBounds_toArray, List.set_cons_zero, List.set_cons_succ]
  refine tp (i := 2) (v := .pointer (some ⟨p, 4, none⟩)) rfl (by kernel_rfl) (fun _ _ _ h => h) rfl (fun W0 => by unfold RunV; go_simp) (.inr hS) ?_
  simp only [Act.put, List.setIfInBounds_toArray, List.set_cons_zero, List.set_cons_succ]
  refine tp (i := 4) (v := .pointer (some ⟨p', 0, none⟩)) rfl (by kernel_rfl) (fun _ _ _ h => h) rfl (fun W0 => by unfold RunV; go_simp) (.inr hS) ?_
  simp only [Act.put, List.setIfInBounds_toArray, List.set_cons_zero, List.set_cons_succ]
  refine tp (i := 5) (v := .pointer (some ⟨p', 0, none⟩)) rfl (by kernel_rfl) (fun _ _ _ h => h) rfl (fun W0 => by unfold RunV; go_simp) (.inr hS) ?_
  simp only [Act.put, List.setIfInBounds_toArray, List.set_cons_zero, List.set_cons_succ]
  refine tp (i := 6) (v := .pointer (some ⟨p', 4, none⟩)) rfl (by kernel_rfl) (fun _ _ _ h => h) rfl (fun W0 => by unfold RunV; go_simp) (.inr hS) ?_
  simp only [Act.put, List.setIfInBounds_toArray, List.set_cons_zero, List.set_cons_succ]
  refine tc (i := 3) (v := .bool true) rfl 8 (by kernel_rfl) (fun _ _ _ h => h) rfl (fun W0 hw => r_load1 rfl rfl (HA4.out W0 hw) (Try.isAgg4 _)) hS ?_
  simp only [Act.put, List.setIfInBounds_toArray, List.set_cons_zero, List.set_cons_succ]
  refine tc (i := 7) (v := .bool true) rfl 8 (by kernel_rfl) (fun _ _ _ h => h) rfl (fun W0 hw => r_load1 rfl rfl (HB4.out W0 hw) (Try.isAgg4 _)) hS ?_
  simp only [Act.put, List.setIfInBounds_toArray, List.set_cons_zero, List.set_cons_succ]
  refine tp (i := 8) (v := .bool false) rfl (by kernel_rfl) (fun _ _ _ h => h) rfl (fun W0 => by unfold RunV; go_simp) (.inr hS) ?_
  simp only [Act.put, List.setIfInBounds_toArray, List.set_cons_zero, List.set_cons_succ]
  refine tp (i := 9) (v := .bool false) rfl (by kernel_rfl) (fun _ _ _ h => h) rfl (fun W0 => by unfold RunV; go_simp) (.inr hS) ?_
  simp only [Act.put, List.setIfInBounds_toArray, List.set_cons_zero, List.set_cons_succ]
  refine tpg (i := 10) (v := .pointer (some ⟨p, 0, none⟩)) rfl (by kernel_rfl) (fun _ _ _ h => h) rfl (fun W0 => r_move rfl rfl) (.inr hS) ?_
  simp only [Act.put, List.setIfInBounds_toArray, List.set_cons_zero, List.set_cons_succ]
  refine tpg (i := 11) (v := .pointer (some ⟨p, 0, none⟩)) rfl (by kernel_rfl) (fun _ _ _ h => h) rfl (fun W0 => by unfold RunV; go_simp) (.inr hS) ?_
  simp only [Act.put, List.setIfInBounds_toArray, List.set_cons_zero, List.set_cons_succ]
  refine tpg (i := 12) (v := .pointer (some ⟨p, 4, none⟩)) rfl (by kernel_rfl) (fun _ _ _ h => h) rfl (fun W0 => by unfold RunV; go_simp) (.inr hS) ?_
  simp only [Act.put, List.setIfInBounds_toArray, List.set_cons_zero, List.set_cons_succ]
  refine tcg (i := 13) (v := .bool true) rfl 8 (by kernel_rfl) (fun _ _ _ h => h) rfl (fun W0 hw => r_load1 rfl rfl (HA4.out W0 hw) (Try.isAgg4 _)) hS ?_
  simp only [Act.put, List.setIfInBounds_toArray, List.set_cons_zero, List.set_cons_succ]
  refine tpg (i := 14) (v := .bool true) rfl (by kernel_rfl) (fun _ _ _ h => h) rfl (fun W0 => r_move rfl rfl) (.inr hS) ?_
  simp only [Act.put, List.setIfInBounds_toArray, List.set_cons_zero, List.set_cons_succ]
  refine tpg (i := 15) (v := .pointer (some ⟨p, 0, none⟩)) rfl (by kernel_rfl) (fun _ _ _ h => h) rfl (fun W0 => r_move rfl rfl) (.inr hS) ?_
  simp only [Act.put, List.setIfInBounds_toArray, List.set_cons_zero, List.set_cons_succ]
  refine tpg (i := 16) (v := .pointer (some ⟨p, 0, none⟩)) rfl (by kernel_rfl) (fun _ _ _ h => h) rfl (fun W0 => by unfold RunV; go_simp) (.inr hS) ?_
  simp only [Act.put, List.setIfInBounds_toArray, List.set_cons_zero, List.set_cons_succ]
  refine tpg (i := 17) (v := .pointer (some ⟨p, 5, none⟩)) rfl (by kernel_rfl) (fun _ _ _ h => h) rfl (fun W0 => by unfold RunV; go_simp) (.inr hS) ?_
  simp only [Act.put, List.setIfInBounds_toArray, List.set_cons_zero, List.set_cons_succ]
  refine tpg (i := 19) (v := .pointer (some ⟨p', 0, none⟩)) rfl (by kernel_rfl) (fun _ _ _ h => h) rfl (fun W0 => r_move rfl rfl) (.inr hS) ?_
  simp only [Act.put, List.setIfInBounds_toArray, List.set_cons_zero, List.set_cons_succ]
  refine tpg (i := 20) (v := .pointer (some ⟨p', 0, none⟩)) rfl (by kernel_rfl) (fun _ _ _ h => h) rfl (fun W0 => by unfold RunV; go_simp) (.inr hS) ?_
  simp only [Act.put, List.setIfInBounds_toArray, List.set_cons_zero, List.set_cons_succ]
  refine tpg (i := 21) (v := .pointer (some ⟨p', 5, none⟩)) rfl (by kernel_rfl) (fun _ _ _ h => h) rfl (fun W0 => by unfold RunV; go_simp) (.inr hS) ?_
  simp only [Act.put, List.setIfInBounds_toArray, List.set_cons_zero, List.set_cons_succ]
  refine tcg (i := 18) (v := .int .i64 D.limit) rfl 8 (by kernel_rfl) (fun _ _ _ h => h) rfl (fun W0 hw => r_load1 rfl rfl (HA5.out W0 hw) (Try.isAgg3 _)) hS ?_
  simp only [Act.put, List.setIfInBounds_toArray, List.set_cons_zero, List.set_cons_succ]
  refine tcg (i := 22) (v := .int .i64 D.limit) rfl 8 (by kernel_rfl) (fun _ _ _ h => h) rfl (fun W0 hw => r_load1 rfl rfl (HB5.out W0 hw) (Try.isAgg3 _)) hS ?_
  simp only [Act.put, List.setIfInBounds_toArray, List.set_cons_zero, List.set_cons_succ]
  refine tpg (i := 23) (v := .bool false) rfl (by kernel_rfl) (fun _ _ _ h => h) rfl (fun W0 => r_neqI rfl Try.underlying3 rfl rfl (by simp)) (.inr hS) ?_
  simp only [Act.put, List.setIfInBounds_toArray, List.set_cons_zero, List.set_cons_succ]
  refine tpg (i := 24) (v := .bool false) rfl (by kernel_rfl) (fun _ _ _ h => h) rfl (fun W0 => r_pick (b := true) rfl rfl rfl) (.inr hS) ?_
  simp only [Act.put, List.setIfInBounds_toArray, List.set_cons_zero, List.set_cons_succ]
  refine oc2 (i := 25) (v := .bool false) rfl (by kernel_rfl) rfl (by kernel_rfl) (r_pick (b := false) rfl rfl rfl) ?_
  simp only [Act.put, List.setIfInBounds_toArray, List.set_cons_zero, List.set_cons_succ]
  refine dc (by kernel_rfl) ?_
  clear hS
  have HF1D : Hid (Fr Non w w.drew.drew) := ((Fr.refl _ w).drew).drew
  generalize w.drew = w1 at *
  go_wp2_with fail
  refine rc (fun W : World => Fr Non w W) 42 (by kernel_rfl) ?_
  have hS : (fun W : World => Fr Non w W) w1.drew := HF1D.out
  refine tp (i := 0) (v := .pointer (some ⟨p, 0, none⟩)) rfl (by kernel_rfl) (fun _ _ _ h => h) rfl (fun W0 => by unfold RunV; go_simp) (.inr hS) ?_
  simp only [Act.put, List.setIfInBounds_toArray, List.set_cons_zero, List.set_cons_succ]
  refine tp (i := 1) (v := .pointer (some ⟨p, 0, none⟩)) rfl (by kernel_rfl) (fun _ _ _ h => h) rfl (fun W0 => by unfold RunV; go_simp) (.inr hS) ?_
  simp only [Act.put, List.setIfInBounds_toArray, List.set_cons_zero, List.set_cons_succ]
  refine tp (i := 2) (v := .pointer (some ⟨p, 0, none⟩)) rfl (by kernel_rfl) (fun _ _ _ h => h) rfl (fun W0 => by unfold RunV; go_simp) (.inr hS) ?_
  simp only [Act.put, List.setIfInBounds_toArray, List.set_cons_zero, List.set_cons_succ]
  refine tp (i := 4) (v := .pointer (some ⟨p', 0, none⟩)) rfl (by kernel_rfl) (fun _ _ _ h => h) rfl (fun W0 => by unfold RunV; go_simp) (.inr hS) ?_
  simp only [Act.put, List.setIfInBounds_toArray, List.set_cons_zero, List.set_cons_succ]
  refine tp (i := 5) (v := .pointer (some ⟨p', 0, none⟩)) rfl (by kernel_rfl) (fun _ _ _ h => h) rfl (fun W0 => by unfold RunV; go_simp) (.inr hS) ?_
  simp only [Act.put, List.setIfInBounds_toArray, List.set_cons_zero, List.set_cons_succ]
  refine tp (i := 6) (v := .pointer (some ⟨p', 0, none⟩)) rfl (by kernel_rfl) (fun _ _ _ h => h) rfl (fun W0 => by unfold RunV; go_simp) (.inr hS) ?_
  simp only [Act.put, List.setIfInBounds_toArray, List.set_cons_zero, List.set_cons_succ]
  refine tc (i := 3) (v := .int .i64 D.n) rfl 8 (by kernel_rfl) (fun _ _ _ h => h) rfl (fun W0 hw => r_load1 rfl rfl (HA0.out W0 hw) (Try.isAgg3 _)) hS ?_
  simp only [Act.put, List.setIfInBounds_toArray, List.set_cons_zero, List.set_cons_succ]
  refine tc (i := 7) (v := .int .i64 D.n) rfl 8 (by kernel_rfl) (fun _ _ _ h => h) rfl (fun W0 hw => r_load1 rfl rfl (HB0.out W0 hw) (Try.isAgg3 _)) hS ?_
  simp only [Act.put, List.setIfInBounds_toArray, List.set_cons_zero, List.set_cons_succ]
  refine tp (i := 8) (v := .bool true) rfl (by kernel_rfl) (fun _ _ _ h => h) rfl (fun W0 => by unfold RunV; go_simp) (.inr hS) ?_
  simp only [Act.put, List.setIfInBounds_toArray, List.set_cons_zero, List.set_cons_succ]
  refine tp (i := 9) (v := .bool true) rfl (by kernel_rfl) (fun _ _ _ h => h) rfl (fun W0 => by unfold RunV; go_simp) (.inr hS) ?_
  simp only [Act.put, List.setIfInBounds_toArray, List.set_cons_zero, List.set_cons_succ]
  refine tpg (i := 10) (v := .pointer (some ⟨p, 0, none⟩)) rfl (by kernel_rfl) (fun _ _ _ h => h) rfl (fun W0 => r_move rfl rfl) (.inr hS) ?_
  simp only [Act.put, List.setIfInBounds_toArray, List.set_cons_zero, List.set_cons_succ]
  refine tpg (i := 11) (v := .pointer (some ⟨p, 0, none⟩)) rfl (by kernel_rfl) (fun _ _ _ h => h) rfl (fun W0 => by unfold RunV; go_simp) (.inr hS) ?_
  simp only [Act.put, List.setIfInBounds_toArray, List.set_cons_zero, List.set_cons_succ]
  refine tpg (i := 12) (v := .pointer (some ⟨p, 6, none⟩)) rfl (by kernel_rfl) (fun _ _ _ h => h) rfl (fun W0 => by unfold RunV; go_simp) (.inr hS) ?_
  simp only [Act.put, List.setIfInBounds_toArray, List.set_cons_zero, List.set_cons_succ]
  refine tpg (i := 14) (v := .pointer (some ⟨p', 0, none⟩)) rfl (by kernel_rfl) (fun _ _ _ h => h) rfl (fun W0 => r_move rfl rfl) (.inr hS) ?_
  simp only [Act.put, List.setIfInBounds_toArray, List.set_cons_zero, List.set_cons_succ]
  refine tpg (i := 15) (v := .pointer (some ⟨p', 0, none⟩)) rfl (by kernel_rfl) (fun _ _ _ h => h) rfl (fun W0 => by unfold RunV; go_simp) (.inr hS) ?_
  simp only [Act.put, List.setIfInBounds_toArray, List.set_cons_zero, List.set_cons_succ]
  refine tpg (i := 16) (v := .pointer (some ⟨p', 6, none⟩)) rfl (by kernel_rfl) (fun _ _ _ h => h) rfl (fun W0 => by unfold RunV; go_simp) (.inr hS) ?_
  simp only [Act.put, List.setIfInBounds_toArray, List.set_cons_zero, List.set_cons_succ]
  refine tcg (i := 13) (v := .bool D.down) rfl 8 (by kernel_rfl) (fun _ _ _ h => h) rfl (fun W0 hw => r_load1 rfl rfl (HA6.out W0 hw) (Try.isAgg4 _)) hS ?_
  simp only [Act.put, List.setIfInBounds_toArray, List.set_cons_zero, List.set_cons_succ]
  refine tcg (i := 17) (v := .bool D'.down) rfl 8 (by kernel_rfl) (fun _ _ _ h => h) rfl (fun W0 hw => r_load1 rfl rfl (HB6.out W0 hw) (Try.isAgg4 _)) hS ?_
  simp only [Act.put, List.setIfInBounds_toArray, List.set_cons_zero, List.set_cons_succ]
  refine tpg (i := 18) (v := .bool false) rfl (by kernel_rfl) (fun _ _ _ h => h) rfl (fun W0 => run_eqlB rfl Try.underlying4 rfl rfl HNE.out) (.inr hS) ?_
  simp only [Act.put, List.setIfInBounds_toArray, List.set_cons_zero, List.set_cons_succ]
  refine tp (i := 19) (v := .bool false) rfl (by kernel_rfl) (fun _ _ _ h => h) rfl (fun W0 => r_pick (b := true) rfl rfl rfl) (.inr hS) ?_
  simp only [Act.put, List.setIfInBounds_toArray, List.set_cons_zero, List.set_cons_succ]
  refine tp (i := 20) (v := .bool false) rfl (by kernel_rfl) (fun _ _ _ h => h) rfl (fun W0 => by unfold RunV; go_simp) (.inr hS) ?_
  simp only [Act.put, List.setIfInBounds_toArray, List.set_cons_zero, List.set_cons_succ]
  refine tpn (i := 21) rfl (by kernel_rfl) (fun _ _ _ h => h) rfl (.inr hS) ?_
  simp only [Act.put, List.setIfInBounds_toArray, List.set_cons_zero, List.set_cons_succ]
  refine tpn (i := 22) rfl (by kernel_rfl) (fun _ _ _ h => h) rfl (.inr hS) ?_
  simp only [Act.put, List.setIfInBounds_toArray, List.set_cons_zero, List.set_cons_succ]
  refine tpn (i := 23) rfl (by kernel_rfl) (fun _ _ _ h => h) rfl (.inr hS) ?_
  simp only [Act.put, List.setIfInBounds_toArray, List.set_cons_zero, List.set_cons_succ]
  refine tpn (i := 25) rfl (by kernel_rfl) (fun _ _ _ h => h) rfl (.inr hS) ?_
  simp only [Act.put, List.setIfInBounds_toArray, List.set_cons_zero, List.set_cons_succ]
  refine tpn (i := 26) rfl (by kernel_rfl) (fun _ _ _ h => h) rfl (.inr hS) ?_
  simp only [Act.put, List.setIfInBounds_toArray, List.set_cons_zero, List.set_cons_succ]
  refine tpn (i := 27) rfl (by kernel_rfl) (fun _ _ _ h => h) rfl (.inr hS) ?_
  simp only [Act.put, List.setIfInBounds_toArray, List.set_cons_zero, List.set_cons_succ]
  refine tpn (i := 24) rfl (by kernel_rfl) (fun _ _ _ h => h) rfl (.inr hS) ?_
  simp only [Act.put, List.setIfInBounds_toArray, List.set_cons_zero, List.set_cons_succ]
  refine tpn (i := 28) rfl (by kernel_rfl) (fun _ _ _ h => h) rfl (.inr hS) ?_
  simp only [Act.put, List.setIfInBounds_toArray, List.set_cons_zero, List.set_cons_succ]
  refine tpn (i := 29) rfl (by kernel_rfl) (fun _ _ _ h => h) rfl (.inr hS) ?_
  simp only [Act.put, List.setIfInBounds_toArray, List.set_cons_zero, List.set_cons_succ]
  refine tp (i := 30) (v := .bool false) rfl (by kernel_rfl) (fun _ _ _ h => h) rfl (fun W0 => r_pick (b := false) rfl rfl rfl) (.inr hS) ?_
  simp only [Act.put, List.setIfInBounds_toArray, List.set_cons_zero, List.set_cons_succ]
  refine tp (i := 31) (v := .bool false) rfl (by kernel_rfl) (fun _ _ _ h => h) rfl (fun W0 => by unfold RunV; go_simp) (.inr hS) ?_
  simp only [Act.put, List.setIfInBounds_toArray, List.set_cons_zero, List.set_cons_succ]
  refine tpn (i := 32) rfl (by kernel_rfl) (fun _ _ _ h => h) rfl (.inr hS) ?_
  simp only [Act.put, List.setIfInBounds_toArray, List.set_cons_zero, List.set_cons_succ]
  refine tpn (i := 33) rfl (by kernel_rfl) (fun _ _ _ h => h) rfl (.inr hS) ?_
  simp only [Act.put, List.setIfInBounds_toArray, List.set_cons_zero, List.set_cons_succ]
  refine tpn (i := 34) rfl (by kernel_rfl) (fun _ _ _ h => h) rfl (.inr hS) ?_
  simp only [Act.put, List.setIfInBounds_toArray, List.set_cons_zero, List.set_cons_succ]
  refine tpn (i := 36) rfl (by kernel_rfl) (fun _ _ _ h => h) rfl (.inr hS) ?_
  simp only [Act.put, List.setIfInBounds_toArray, List.set_cons_zero, List.set_cons_succ]
  refine tpn (i := 37) rfl (by kernel_rfl) (fun _ _ _ h => h) rfl (.inr hS) ?_
  simp only [Act.put, List.setIfInBounds_toArray, List.set_cons_zero, List.set_cons_succ]
  refine tpn (i := 38) rfl (by kernel_rfl) (fun _ _ _ h => h) rfl (.inr hS) ?_
  simp only [Act.put, List.setIfInBounds_toArray, List.set_cons_zero, List.set_cons_succ]
  refine tpn (i := 35) rfl (by kernel_rfl) (fun _ _ _ h => h) rfl (.inr hS) ?_
  simp only [Act.put, List.setIfInBounds_toArray, List.set_cons_zero, List.set_cons_succ]
  refine tpn (i := 39) rfl (by kernel_rfl) (fun _ _ _ h => h) rfl (.inr hS) ?_
  simp only [Act.put, List.setIfInBounds_toArray, List.set_cons_zero, List.set_cons_succ]
  refine tpn (i := 40) rfl (by kernel_rfl) (fun _ _ _ h => h) rfl (.inr hS) ?_
  simp only [Act.put, List.setIfInBounds_toArray, List.set_cons_zero, List.set_cons_succ]
  refine tp (i := 41) (v := .bool false) rfl (by kernel_rfl) (fun _ _ _ h => h) rfl (fun W0 => r_pick (b := false) rfl rfl rfl) (.inr hS) ?_
  simp only [Act.put, List.setIfInBounds_toArray, List.set_cons_zero, List.set_cons_succ]
  refine oc2 (i := 42) (v := .bool false) rfl (by kernel_rfl) rfl (by kernel_rfl) (r_assign rfl rfl) ?_
  simp only [Act.put, List.setIfInBounds_toArray, List.set_cons_zero, List.set_cons_succ]
  refine dc (by kernel_rfl) ?_
  clear hS
  go_wp2_with fail
  go_ret
  exact ⟨false, rfl, ⟨fun h => (by cases h), fun h => (absurd h.2.2.2.1 HND.out)⟩, HF1D.out⟩
set_option linter.unusedVariables false in
set_option maxRecDepth 100000 in
set_option maxHeartbeats 2000000 in
theorem Equal_true_x (w : World) (p m : Nat) (a : Option Addr) (cap : Nat) (D : Dsk) (p' m' : Nat) (a' : Option Addr) (cap' : Nat) (D' : Dsk) (h : DiskAt w p m (.slice a D.pend.length cap) D) (h' : DiskAt w p' m' (.slice a' D'.pend.length cap') D') (hl : D.pend.length ≤ 100000) (e1 : D.limited = true) (e2 : D'.limited = true) (e3 : D.limit = D'.limit) (e4 : D.n = D'.n) (e5 : D.down = D'.down) :
    Calls Try.prog 31 #[.pointer (some ⟨p, 0, none⟩), .pointer (some ⟨p', 0, none⟩)] w fun e w' => BoolIs w w' e (EqD D D') := by
  have HA0 : Hid (∀ W, Fr Non w W → W.cell? ⟨p, 0, none⟩ = some (.int .i64 D.n)) := fun W hW => (h.fr hW (fun _ _ h => h)).cell.1
  have HA1 : Hid (∀ W, Fr Non w W → W.cell? ⟨p, 1, none⟩ = some (.map (some m))) := fun W hW => (h.fr hW (fun _ _ h => h)).cell.2.1
  have HA2 : Hid (∀ W, Fr Non w W → W.cell? ⟨p, 2, none⟩ = some (.slice a D.pend.length cap)) := fun W hW => (h.fr hW (fun _ _ h => h)).cell.2.2.1
  have HA4 : Hid (∀ W, Fr Non w W → W.cell? ⟨p, 4, none⟩ = some (.bool D.limited)) := fun W hW => (h.fr hW (fun _ _ h => h)).cell.2.2.2.2.1
  have HA5 : Hid (∀ W, Fr Non w W → W.cell? ⟨p, 5, none⟩ = some (.int .i64 D.limit)) := fun W hW => (h.fr hW (fun _ _ h => h)).cell.2.2.2.2.2.1
  have HA6 : Hid (∀ W, Fr Non w W → W.cell? ⟨p, 6, none⟩ = some (.bool D.down)) := fun W hW => (h.fr hW (fun _ _ h => h)).cell.2.2.2.2.2.2
  have HB0 : Hid (∀ W, Fr Non w W → W.cell? ⟨p', 0, none⟩ = some (.int .i64 D'.n)) := fun W hW => (h'.fr hW (fun _ _ h => h)).cell.1
  have HB1 : Hid (∀ W, Fr Non w W → W.cell? ⟨p', 1, none⟩ = some (.map (some m'))) := fun W hW => (h'.fr hW (fun _ _ h => h)).cell.2.1
  have HB2 : Hid (∀ W, Fr Non w W → W.cell? ⟨p', 2, none⟩ = some (.slice a' D'.pend.length cap')) := fun W hW => (h'.fr hW (fun _ _ h => h)).cell.2.2.1
  have HB4 : Hid (∀ W, Fr Non w W → W.cell? ⟨p', 4, none⟩ = some (.bool D'.limited)) := fun W hW => (h'.fr hW (fun _ _ h => h)).cell.2.2.2.2.1
  have HB5 : Hid (∀ W, Fr Non w W → W.cell? ⟨p', 5, none⟩ = some (.int .i64 D'.limit)) := fun W hW => (h'.fr hW (fun _ _ h => h)).cell.2.2.2.2.2.1
  have HB6 : Hid (∀ W, Fr Non w W → W.cell? ⟨p', 6, none⟩ = some (.bool D'.down)) := fun W hW => (h'.fr hW (fun _ _ h => h)).cell.2.2.2.2.2.2
  have HME : Hid (∀ W, Fr Non w W → Calls Try.prog 51 #[.map (some m), .map (some m')] W fun e w' => BoolIs W w' e (∀ k, D.dur k = D'.dur k)) := fun W hW => by
    obtain ⟨l1, q1, g1⟩ := (h.fr hW (fun _ _ h => h)).hm
    obtain ⟨l2, q2, g2⟩ := (h'.fr hW (fun _ _ h => h)).hm
    refine (mapsEqual_c W m m' l1 l2 q1 q2).mono ?_
    rintro e w' ⟨b, he, hb, hF⟩
    exact ⟨b, he, hb.trans ⟨fun h k => by rw [g1, g2]; exact h k, fun h k => by rw [← g1, ← g2]; exact h k⟩, hF⟩
  have HSE : Hid (∀ W, Fr Non w W → Calls Try.prog 52 #[.slice a D.pend.length cap, .slice a' D'.pend.length cap'] W fun e w' => e = .returned (.bool (decide (D.pend = D'.pend))) ∧ Fr Non W w') := fun W hW =>
    Equal52 W a cap D.pend a' cap' D'.pend (by omega) (AtL.own elem82 (h.fr hW (fun _ _ h => h)).hv) (AtL.own elem82 (h'.fr hW (fun _ _ h => h)).hv)
  have HDUR : Hid (D.dur = D'.dur ↔ ∀ k, D.dur k = D'.dur k) := ⟨fun h k => by rw [h], fun h => funext h⟩
  have HEQ : Hid (D.limited = D'.limited ∧ (D.limited = true → D.limit = D'.limit) ∧ D.n = D'.n ∧ D.down = D'.down) := ⟨(by rw [e1, e2]), fun _ => e3, e4, e5⟩
  rw [e1] at HA4
  rw [e2] at HB4
  rw [← e3] at HB5
  rw [← e4] at HB0
  rw [← e5] at HB6
  clear e1 e2 e3 e4 e5
  clear h h' hl
  go_enter Try.func31, Try.ntmps31
  go_wp2_with fail
  refine rc (fun W : World => Fr Non w W) 25 (by kernel_rfl) ?_
  have hS : (fun W : World => Fr Non w W) w.drew := (Fr.refl _ w).drew
  refine tp (i := 0) (v := .pointer (some ⟨p, 0, none⟩)) rfl (by kernel_rfl) (fun _ _ _ h => h) rfl (fun W0 => by unfold RunV; go_simp) (.inr hS) ?_
  simp only [Act.put, List.setIfInBounds_toArray, List.set_cons_zero, List.set_cons_succ]
  refine tp (i := 1) (v := .pointer (some ⟨p, 0, none⟩)) rfl (by kernel_rfl) (fun _ _ _ h => h) rfl (fun W0 => by unfold RunV; go_simp) (.inr hS) ?_
  simp only [Act.put, List.setIfInBounds_toArray, List.set_cons_zero, List.set_cons_succ]
  refine tp (i := 2) (v := .pointer (some ⟨p, 4, none⟩)) rfl (by kernel_rfl) (fun _ _ _ h => h) rfl (fun W0 => by unfold RunV; go_simp) (.inr hS) ?_
  simp only [Act.put, List.setIfInBounds_toArray, List.set_cons_zero, List.set_cons_succ]
  refine tp (i := 4) (v := .pointer (some ⟨p', 0, none⟩)) rfl (by kernel_rfl) (fun _ _ _ h => h) rfl (fun W0 => by unfold RunV; go_simp) (.inr hS) ?_
  simp only [Act.put, List.setIfInBounds_toArray, List.set_cons_zero, List.set_cons_succ]
  refine tp (i := 5) (v := .pointer (some ⟨p', 0, none⟩)) rfl (by kernel_rfl) (fun _ _ _ h => h) rfl (fun W0 => by unfold RunV; go_simp) (.inr hS) ?_
  simp only [Act.put, List.setIfInBounds_toArray, List.set_cons_zero, List.set_cons_succ]
  refine tp (i := 6) (v := .pointer (some ⟨p', 4, none⟩)) rfl (by kernel_rfl) (fun _ _ _ h => h) rfl (fun W0 => by unfold RunV; go_simp) (.inr hS) ?_
  simp only [Act.put, List.setIfInBounds_toArray, List.set_cons_zero, List.set_cons_succ]
  refine tc (i := 3) (v := .bool true) rfl 8 (by kernel_rfl) (fun _ _ _ h => h) rfl (fun W0 hw => r_load1 rfl rfl (HA4.out W0 hw) (Try.isAgg4 _)) hS ?_
  simp only [Act.put, List.setIfInBounds_toArray, List.set_cons_zero, List.set_cons_succ]
  refine tc (i := 7) (v := .bool true) rfl 8 (by kernel_rfl) (fun _ _ _ h => h) rfl (fun W0 hw => r_load1 rfl rfl (HB4.out W0 hw) (Try.isAgg4 _)) hS ?_
  simp only [Act.put, List.setIfInBounds_toArray, List.set_cons_zero, List.set_cons_succ]
  refine tp (i := 8) (v := .bool false) rfl (by kernel_rfl) (fun _ _ _ h => h) rfl (fun W0 => by unfold RunV; go_simp) (.inr hS) ?_
  simp only [Act.put, List.setIfInBounds_toArray, List.set_cons_zero, List.set_cons_succ]
  refine tp (i := 9) (v := .bool false) rfl (by kernel_rfl) (fun _ _ _ h => h) rfl (fun W0 => by unfold RunV; go_simp) (.inr hS) ?_
  simp only [Act.put, List.setIfInBounds_toArray, List.set_cons_zero, List.set_cons_succ]
  refine tpg (i := 10) (v := .pointer (some ⟨p, 0, none⟩)) rfl (by kernel_rfl) (fun _ _ _ h => h) rfl (fun W0 => r_move rfl rfl) (.inr hS) ?_
  simp only [Act.put, List.setIfInBounds_toArray, List.set_cons_zero, List.set_cons_succ]
  refine tpg (i := 11) (v := .pointer (some ⟨p, 0, none⟩)) rfl (by kernel_rfl) (fun _ _ _ h => h) rfl (fun W0 => by unfold RunV; go_simp) (.inr hS) ?_
  simp only [Act.put, List.setIfInBounds_toArray, List.set_cons_zero, List.set_cons_succ]
  refine tpg (i := 12) (v := .pointer (some ⟨p, 4, none⟩)) rfl (by kernel_rfl) (fun _ _ _ h => h) rfl (fun W0 => by unfold RunV; go_simp) (.inr hS) ?_
  simp only [Act.put, List.setIfInBounds_toArray, List.set_cons_zero, List.set_cons_succ]
  refine tcg (i := 13) (v := .bool true) rfl 8 (by kernel_rfl) (fun _ _ _ h => h) rfl (fun W0 hw => r_load1 rfl rfl (HA4.out W0 hw) (Try.isAgg4 _)) hS ?_
  simp only [Act.put, List.setIfInBounds_toArray, List.set_cons_zero, List.set_cons_succ]
  refine tpg (i := 14) (v := .bool true) rfl (by kernel_rfl) (fun _ _ _ h => h) rfl (fun W0 => r_move rfl rfl) (.inr hS) ?_
  simp only [Act.put, List.setIfInBounds_toArray, List.set_cons_zero, List.set_cons_succ]
  refine tpg (i := 15) (v := .pointer (some ⟨p, 0, none⟩)) rfl (by kernel_rfl) (fun _ _ _ h => h) rfl (fun W0 => r_move rfl rfl) (.inr hS) ?_
  simp only [Act.put, List.setIfInBounds_toArray, List.set_cons_zero, List.set_cons_succ]
  refine tpg (i := 16) (v := .pointer (some ⟨p, 0, none⟩)) rfl (by kernel_rfl) (fun _ _ _ h => h) rfl (fun W0 => by unfold RunV; go_simp) (.inr hS) ?_
  simp only [Act.put, List.setIfInBounds_toArray, List.set_cons_zero, List.set_cons_succ]
  refine tpg (i := 17) (v := .pointer (some ⟨p, 5, none⟩)) rfl (by kernel_rfl) (fun _ _ _ h => h) rfl (fun W0 => by unfold RunV; go_simp) (.inr hS) ?_
  simp only [Act.put, List.setIfInBounds_toArray, List.set_cons_zero, List.set_cons_succ]
  refine tpg (i := 19) (v := .pointer (some ⟨p', 0, none⟩)) rfl (by kernel_rfl) (fun _ _ _ h => h) rfl (fun W0 => r_move rfl rfl) (.inr hS) ?_
  simp only [Act.put, List.setIfInBounds_toArray, List.set_cons_zero, List.set_cons_succ]
  refine tpg (i := 20) (v := .pointer (some ⟨p', 0, none⟩)) rfl (by kernel_rfl) (fun _ _ _ h => h) rfl (fun W0 => by unfold RunV; go_simp) (.inr hS) ?_
  simp only [Act.put, List.setIfInBounds_toArray, List.set_cons_zero, List.set_cons_succ]
  refine tpg (i := 21) (v := .pointer (some ⟨p', 5, none⟩)) rfl (by kernel_rfl) (fun _ _ _ h => h) rfl (fun W0 => by unfold RunV; go_simp) (.inr hS) ?_
  simp only [Act.put, List.setIfInBounds_toArray, List.set_cons_zero, List.set_cons_succ]
  refine tcg (i := 18) (v := .int .i64 D.limit) rfl 8 (by kernel_rfl) (fun _ _ _ h => h) rfl (fun W0 hw => r_load1 rfl rfl (HA5.out W0 hw) (Try.isAgg3 _)) hS ?_
  simp only [Act.put, List.setIfInBounds_toArray, List.set_cons_zero, List.set_cons_succ]
  refine tcg (i := 22) (v := .int .i64 D.limit) rfl 8 (by kernel_rfl) (fun _ _ _ h => h) rfl (fun W0 hw => r_load1 rfl rfl (HB5.out W0 hw) (Try.isAgg3 _)) hS ?_
  simp only [Act.put, List.setIfInBounds_toArray, List.set_cons_zero, List.set_cons_succ]
  refine tpg (i := 23) (v := .bool false) rfl (by kernel_rfl) (fun _ _ _ h => h) rfl (fun W0 => r_neqI rfl Try.underlying3 rfl rfl (by simp)) (.inr hS) ?_
  simp only [Act.put, List.setIfInBounds_toArray, List.set_cons_zero, List.set_cons_succ]
  refine tpg (i := 24) (v := .bool false) rfl (by kernel_rfl) (fun _ _ _ h => h) rfl (fun W0 => r_pick (b := true) rfl rfl rfl) (.inr hS) ?_
  simp only [Act.put, List.setIfInBounds_toArray, List.set_cons_zero, List.set_cons_succ]
  refine oc2 (i := 25) (v := .bool false) rfl (by kernel_rfl) rfl (by kernel_rfl) (r_pick (b := false) rfl rfl rfl) ?_
  simp only [Act.put, List.setIfInBounds_toArray, List.set_cons_zero, List.set_cons_succ]
  refine dc (by kernel_rfl) ?_
  clear hS
  have HF1D : Hid (Fr Non w w.drew.drew) := ((Fr.refl _ w).drew).drew
  generalize w.drew = w1 at *
  go_wp2_with fail
  refine rc (fun W : World => Fr Non w W) 42 (by kernel_rfl) ?_
  have hS : (fun W : World => Fr Non w W) w1.drew := HF1D.out
  refine tp (i := 0) (v := .pointer (some ⟨p, 0, none⟩)) rfl (by kernel_rfl) (fun _ _ _ h => h) rfl (fun W0 => by unfold RunV; go_simp) (.inr hS) ?_
  simp only [Act.put, List.setIfInBounds_toArray, List.set_cons_zero, List.set_cons_succ]
  refine tp (i := 1) (v := .pointer (some ⟨p, 0, none⟩)) rfl (by kernel_rfl) (fun _ _ _ h => h) rfl (fun W0 => by unfold RunV; go_simp) (.inr hS) ?_
  simp only [Act.put, List.setIfInBounds_toArray, List.set_cons_zero, List.set_cons_succ]
  refine tp (i := 2) (v := .pointer (some ⟨p, 0, none⟩)) rfl (by kernel_rfl) (fun _ _ _ h => h) rfl (fun W0 => by unfold RunV; go_simp) (.inr hS) ?_
  simp only [Act.put, List.setIfInBounds_toArray, List.set_cons_zero, List.set_cons_succ]
  refine tp (i := 4) (v := .pointer (some ⟨p', 0, none⟩)) rfl (by kernel_rfl) (fun _ _ _ h => h) rfl (fun W0 => by unfold RunV; go_simp) (.inr hS) ?_
  simp only [Act.put, List.setIfInBounds_toArray, List.set_cons_zero, List.set_cons_succ]
  refine tp (i := 5) (v := .pointer (some ⟨p', 0, none⟩)) rfl (by kernel_rfl) (fun _ _ _ h => h) rfl (fun W0 => by unfold RunV; go_simp) (.inr hS) ?_
  simp only [Act.put, List.setIfInBounds_toArray, List.set_cons_zero, List.set_cons_succ]
  refine tp (i := 6) (v := .pointer (some ⟨p', 0, none⟩)) rfl (by kernel_rfl) (fun _ _ _ h => h) rfl (fun W0 => by unfold RunV; go_simp) (.inr hS) ?_
  simp only [Act.put, List.setIfInBounds_toArray, List.set_cons_zero, List.set_cons_succ]
  refine tc (i := 3) (v := .int .i64 D.n) rfl 8 (by kernel_rfl) (fun _ _ _ h => h) rfl (fun W0 hw => r_load1 rfl rfl (HA0.out W0 hw) (Try.isAgg3 _)) hS ?_
  simp only [Act.put, List.setIfInBounds_toArray, List.set_cons_zero, List.set_cons_succ]
  refine tc (i := 7) (v := .int .i64 D.n) rfl 8 (by kernel_rfl) (fun _ _ _ h => h) rfl (fun W0 hw => r_load1 rfl rfl (HB0.out W0 hw) (Try.isAgg3 _)) hS ?_
  simp only [Act.put, List.setIfInBounds_toArray, List.set_cons_zero, List.set_cons_succ]
  refine tp (i := 8) (v := .bool true) rfl (by kernel_rfl) (fun _ _ _ h => h) rfl (fun W0 => by unfold RunV; go_simp) (.inr hS) ?_
  simp only [Act.put, List.setIfInBounds_toArray, List.set_cons_zero, List.set_cons_succ]
  refine tp (i := 9) (v := .bool true) rfl (by kernel_rfl) (fun _ _ _ h => h) rfl (fun W0 => by unfold RunV; go_simp) (.inr hS) ?_
  simp only [Act.put, List.setIfInBounds_toArray, List.set_cons_zero, List.set_cons_succ]
  refine tpg (i := 10) (v := .pointer (some ⟨p, 0, none⟩)) rfl (by kernel_rfl) (fun _ _ _ h => h) rfl (fun W0 => r_move rfl rfl) (.inr hS) ?_
  simp only [Act.put, List.setIfInBounds_toArray, List.set_cons_zero, List.set_cons_succ]
  refine tpg (i := 11) (v := .pointer (some ⟨p, 0, none⟩)) rfl (by kernel_rfl) (fun _ _ _ h => h) rfl (fun W0 => by unfold RunV; go_simp) (.inr hS) ?_
  simp only [Act.put, List.setIfInBounds_toArray, List.set_cons_zero, List.set_cons_succ]
  refine tpg (i := 12) (v := .pointer (some ⟨p, 6, none⟩)) rfl (by kernel_rfl) (fun _ _ _ h => h) rfl (fun W0 => by unfold RunV; go_simp) (.inr hS) ?_
  simp only [Act.put, List.setIfInBounds_toArray, List.set_cons_zero, List.set_cons_succ]
  refine tpg (i := 14) (v := .pointer (some ⟨p', 0, none⟩)) rfl (by kernel_rfl) (fun _ _ _ h => h) rfl (fun W0 => r_move rfl rfl) (.inr hS) ?_
  simp only [Act.put, List.setIfInBounds_toArray, List.set_cons_zero, List.set_cons_succ]
  refine tpg (i := 15) (v := .pointer (some ⟨p', 0, none⟩)) rfl (by kernel_rfl) (fun _ _ _ h => h) rfl (fun W0 => by unfold RunV; go_simp) (.inr hS) ?_
  simp only [Act.put, List.setIfInBounds_toArray, List.set_cons_zero, List.set_cons_succ]
  refine tpg (i := 16) (v := .pointer (some ⟨p', 6, none⟩)) rfl (by kernel_rfl) (fun _ _ _ h => h) rfl (fun W0 => by unfold RunV; go_simp) (.inr hS) ?_
  simp only [Act.put, List.setIfInBounds_toArray, List.set_cons_zero, List.set_cons_succ]
  refine tcg (i := 13) (v := .bool D.down) rfl 8 (by kernel_rfl) (fun _ _ _ h => h) rfl (fun W0 hw => r_load1 rfl rfl (HA6.out W0 hw) (Try.isAgg4 _)) hS ?_
  simp only [Act.put, List.setIfInBounds_toArray, List.set_cons_zero, List.set_cons_succ]
  refine tcg (i := 17) (v := .bool D.down) rfl 8 (by kernel_rfl) (fun _ _ _ h => h) rfl (fun W0 hw => r_load1 rfl rfl (HB6.out W0 hw) (Try.isAgg4 _)) hS ?_
  simp only [Act.put, List.setIfInBounds_toArray, List.set_cons_zero, List.set_cons_succ]
  refine tpg (i := 18) (v := .bool true) rfl (by kernel_rfl) (fun _ _ _ h => h) rfl (fun W0 => run_eqlB rfl Try.underlying4 rfl rfl (by simp)) (.inr hS) ?_
  simp only [Act.put, List.setIfInBounds_toArray, List.set_cons_zero, List.set_cons_succ]
  refine tp (i := 19) (v := .bool true) rfl (by kernel_rfl) (fun _ _ _ h => h) rfl (fun W0 => r_pick (b := true) rfl rfl rfl) (.inr hS) ?_
  simp only [Act.put, List.setIfInBounds_toArray, List.set_cons_zero, List.set_cons_succ]
  refine tp (i := 20) (v := .bool true) rfl (by kernel_rfl) (fun _ _ _ h => h) rfl (fun W0 => by unfold RunV; go_simp) (.inr hS) ?_
  simp only [Act.put, List.setIfInBounds_toArray, List.set_cons_zero, List.set_cons_succ]
  refine tpg (i := 21) (v := .pointer (some ⟨p, 0, none⟩)) rfl (by kernel_rfl) (fun _ _ _ h => h) rfl (fun W0 => r_move rfl rfl) (.inr hS) ?_
  simp only [Act.put, List.setIfInBounds_toArray, List.set_cons_zero, List.set_cons_succ]
  refine tpg (i := 22) (v := .pointer (some ⟨p, 0, none⟩)) rfl (by kernel_rfl) (fun _ _ _ h => h) rfl (fun W0 => by unfold RunV; go_simp) (.inr hS) ?_
  simp only [Act.put, List.setIfInBounds_toArray, List.set_cons_zero, List.set_cons_succ]
  refine tpg (i := 23) (v := .pointer (some ⟨p, 1, none⟩)) rfl (by kernel_rfl) (fun _ _ _ h => h) rfl (fun W0 => by unfold RunV; go_simp) (.inr hS) ?_
  simp only [Act.put, List.setIfInBounds_toArray, List.set_cons_zero, List.set_cons_succ]
  refine tpg (i := 25) (v := .pointer (some ⟨p', 0, none⟩)) rfl (by kernel_rfl) (fun _ _ _ h => h) rfl (fun W0 => r_move rfl rfl) (.inr hS) ?_
  simp only [Act.put, List.setIfInBounds_toArray, List.set_cons_zero, List.set_cons_succ]
  refine tpg (i := 26) (v := .pointer (some ⟨p', 0, none⟩)) rfl (by kernel_rfl) (fun _ _ _ h => h) rfl (fun W0 => by unfold RunV; go_simp) (.inr hS) ?_
  simp only [Act.put, List.setIfInBounds_toArray, List.set_cons_zero, List.set_cons_succ]
  refine tpg (i := 27) (v := .pointer (some ⟨p', 1, none⟩)) rfl (by kernel_rfl) (fun _ _ _ h => h) rfl (fun W0 => by unfold RunV; go_simp) (.inr hS) ?_
  simp only [Act.put, List.setIfInBounds_toArray, List.set_cons_zero, List.set_cons_succ]
  refine tcg (i := 24) (v := .map (some m)) rfl 8 (by kernel_rfl) (fun _ _ _ h => h) rfl (fun W0 hw => r_load1 rfl rfl (HA1.out W0 hw) (Try.isAgg75 _)) hS ?_
  simp only [Act.put, List.setIfInBounds_toArray, List.set_cons_zero, List.set_cons_succ]
  refine tcg (i := 28) (v := .map (some m')) rfl 8 (by kernel_rfl) (fun _ _ _ h => h) rfl (fun W0 hw => r_load1 rfl rfl (HB1.out W0 hw) (Try.isAgg75 _)) hS ?_
  simp only [Act.put, List.setIfInBounds_toArray, List.set_cons_zero, List.set_cons_succ]
  refine og1 (i := 29) rfl (by kernel_rfl) rfl ?_
  unfold Oper.wp
  go_simp
  refine (HME.out _ HF1D.out).mono ?_
  rintro e w5 ⟨b1, rfl, hb1, hF5⟩
  have HB1E := Lib.hid hb1
  have HF5 : Hid (Fr Non w w5) := HF1D.out.trans hF5 (fun _ _ h => h)
  clear hb1 hF5 hS
  refine ⟨HF5.out, ?_⟩
  have hS : (fun W : World => Fr Non w W) w5 := HF5.out
  cases b1 with
  | false =>
    have HDE : Hid (¬ ∀ k, D.dur k = D'.dur k) := fun h => absurd (HB1E.out.2 h) (by simp)
    clear HB1E
    refine tp (i := 30) (v := .bool false) rfl (by kernel_rfl) (fun _ _ _ h => h) rfl (fun W0 => r_pick (b := true) rfl rfl rfl) (.inr hS) ?_
    simp only [Act.put, List.setIfInBounds_toArray, List.set_cons_zero, List.set_cons_succ]
    refine tp (i := 31) (v := .bool false) rfl (by kernel_rfl) (fun _ _ _ h => h) rfl (fun W0 => by unfold RunV; go_simp) (.inr hS) ?_
    simp only [Act.put, List.setIfInBounds_toArray, List.set_cons_zero, List.set_cons_succ]
    refine tpn (i := 32) rfl (by kernel_rfl) (fun _ _ _ h => h) rfl (.inr hS) ?_
    simp only [Act.put, List.setIfInBounds_toArray, List.set_cons_zero, List.set_cons_succ]
    refine tpn (i := 33) rfl (by kernel_rfl) (fun _ _ _ h => h) rfl (.inr hS) ?_
    simp only [Act.put, List.setIfInBounds_toArray, List.set_cons_zero, List.set_cons_succ]
    refine tpn (i := 34) rfl (by kernel_rfl) (fun _ _ _ h => h) rfl (.inr hS) ?_
    simp only [Act.put, List.setIfInBounds_toArray, List.set_cons_zero, List.set_cons_succ]
    refine tpn (i := 36) rfl (by kernel_rfl) (fun _ _ _ h => h) rfl (.inr hS) ?_
    simp only [Act.put, List.setIfInBounds_toArray, List.set_cons_zero, List.set_cons_succ]
    refine tpn (i := 37) rfl (by kernel_rfl) (fun _ _ _ h => h) rfl (.inr hS) ?_
    simp only [Act.put, List.setIfInBounds_toArray, List.set_cons_zero, List.set_cons_succ]
    refine tpn (i := 38) rfl (by kernel_rfl) (fun _ _ _ h => h) rfl (.inr hS) ?_
    simp only [Act.put, List.setIfInBounds_toArray, List.set_cons_zero, List.set_cons_succ]
    refine tpn (i := 35) rfl (by kernel_rfl) (fun _ _ _ h => h) rfl (.inr hS) ?_
    simp only [Act.put, List.setIfInBounds_toArray, List.set_cons_zero, List.set_cons_succ]
    refine tpn (i := 39) rfl (by kernel_rfl) (fun _ _ _ h => h) rfl (.inr hS) ?_
    simp only [Act.put, List.setIfInBounds_toArray, List.set_cons_zero, List.set_cons_succ]
    refine tpn (i := 40) rfl (by kernel_rfl) (fun _ _ _ h => h) rfl (.inr hS) ?_
    simp only [Act.put, List.setIfInBounds_toArray, List.set_cons_zero, List.set_cons_succ]
    refine tp (i := 41) (v := .bool false) rfl (by kernel_rfl) (fun _ _ _ h => h) rfl (fun W0 => r_pick (b := false) rfl rfl rfl) (.inr hS) ?_
    simp only [Act.put, List.setIfInBounds_toArray, List.set_cons_zero, List.set_cons_succ]
    refine oc2 (i := 42) (v := .bool false) rfl (by kernel_rfl) rfl (by kernel_rfl) (r_assign rfl rfl) ?_
    simp only [Act.put, List.setIfInBounds_toArray, List.set_cons_zero, List.set_cons_succ]
    refine dc (by kernel_rfl) ?_
    clear hS
    go_wp2_with fail
    go_ret
    exact ⟨false, rfl, ⟨fun h => (by cases h), fun h => absurd (HDUR.out.1 h.2.2.2.2.1) HDE.out⟩, HF5.out⟩
  | true =>
    have HDE : Hid (∀ k, D.dur k = D'.dur k) := HB1E.out.1 rfl
    clear HB1E
    refine tp (i := 30) (v := .bool true) rfl (by kernel_rfl) (fun _ _ _ h => h) rfl (fun W0 => r_pick (b := true) rfl rfl rfl) (.inr hS) ?_
    simp only [Act.put, List.setIfInBounds_toArray, List.set_cons_zero, List.set_cons_succ]
    refine tp (i := 31) (v := .bool true) rfl (by kernel_rfl) (fun _ _ _ h => h) rfl (fun W0 => by unfold RunV; go_simp) (.inr hS) ?_
    simp only [Act.put, List.setIfInBounds_toArray, List.set_cons_zero, List.set_cons_succ]
    refine tpg (i := 32) (v := .pointer (some ⟨p, 0, none⟩)) rfl (by kernel_rfl) (fun _ _ _ h => h) rfl (fun W0 => r_move rfl rfl) (.inr hS) ?_
    simp only [Act.put, List.setIfInBounds_toArray, List.set_cons_zero, List.set_cons_succ]
    refine tpg (i := 33) (v := .pointer (some ⟨p, 0, none⟩)) rfl (by kernel_rfl) (fun _ _ _ h => h) rfl (fun W0 => by unfold RunV; go_simp) (.inr hS) ?_
    simp only [Act.put, List.setIfInBounds_toArray, List.set_cons_zero, List.set_cons_succ]
    refine tpg (i := 34) (v := .pointer (some ⟨p, 2, none⟩)) rfl (by kernel_rfl) (fun _ _ _ h => h) rfl (fun W0 => by unfold RunV; go_simp) (.inr hS) ?_
    simp only [Act.put, List.setIfInBounds_toArray, List.set_cons_zero, List.set_cons_succ]
    refine tpg (i := 36) (v := .pointer (some ⟨p', 0, none⟩)) rfl (by kernel_rfl) (fun _ _ _ h => h) rfl (fun W0 => r_move rfl rfl) (.inr hS) ?_
    simp only [Act.put, List.setIfInBounds_toArray, List.set_cons_zero, List.set_cons_succ]
    refine tpg (i := 37) (v := .pointer (some ⟨p', 0, none⟩)) rfl (by kernel_rfl) (fun _ _ _ h => h) rfl (fun W0 => by unfold RunV; go_simp) (.inr hS) ?_
    simp only [Act.put, List.setIfInBounds_toArray, List.set_cons_zero, List.set_cons_succ]
    refine tpg (i := 38) (v := .pointer (some ⟨p', 2, none⟩)) rfl (by kernel_rfl) (fun _ _ _ h => h) rfl (fun W0 => by unfold RunV; go_simp) (.inr hS) ?_
    simp only [Act.put, List.setIfInBounds_toArray, List.set_cons_zero, List.set_cons_succ]
    refine tcg (i := 35) (v := .slice a D.pend.length cap) rfl 8 (by kernel_rfl) (fun _ _ _ h => h) rfl (fun W0 hw => r_load1 rfl rfl (HA2.out W0 hw) (Try.isAgg76 _)) hS ?_
    simp only [Act.put, List.setIfInBounds_toArray, List.set_cons_zero, List.set_cons_succ]
    refine tcg (i := 39) (v := .slice a' D'.pend.length cap') rfl 8 (by kernel_rfl) (fun _ _ _ h => h) rfl (fun W0 hw => r_load1 rfl rfl (HB2.out W0 hw) (Try.isAgg76 _)) hS ?_
    simp only [Act.put, List.setIfInBounds_toArray, List.set_cons_zero, List.set_cons_succ]
    refine og1 (i := 40) rfl (by kernel_rfl) rfl ?_
    unfold Oper.wp
    go_simp
    refine (HSE.out _ HF5.out).mono ?_
    rintro e w6 ⟨rfl, hF6⟩
    have HF6 : Hid (Fr Non w w6) := HF5.out.trans hF6 (fun _ _ h => h)
    clear hF6 hS
    refine ⟨HF6.out, ?_⟩
    have hS : (fun W : World => Fr Non w W) w6 := HF6.out
    refine tp (i := 41) (v := .bool (decide (D.pend = D'.pend))) rfl (by kernel_rfl) (fun _ _ _ h => h) rfl (fun W0 => r_pick (b := true) rfl rfl rfl) (.inr hS) ?_
    simp only [Act.put, List.setIfInBounds_toArray, List.set_cons_zero, List.set_cons_succ]
    refine oc2 (i := 42) (v := .bool (decide (D.pend = D'.pend))) rfl (by kernel_rfl) rfl (by kernel_rfl) (r_assign rfl rfl) ?_
    simp only [Act.put, List.setIfInBounds_toArray, List.set_cons_zero, List.set_cons_succ]
    refine dc (by kernel_rfl) ?_
    clear hS
    go_wp2_with fail
    go_ret
    exact ⟨_, rfl, ⟨fun h => ⟨HEQ.out.1, HEQ.out.2.1, HEQ.out.2.2.1, HEQ.out.2.2.2, HDUR.out.2 HDE.out, of_decide_eq_true h⟩, fun h => decide_eq_true h.2.2.2.2.2⟩, HF6.out⟩
set_option linter.unusedVariables false in
set_option maxRecDepth 100000 in
set_option maxHeartbeats 2000000 in
theorem Equal_false_n (w : World) (p m : Nat) (a : Option Addr) (cap : Nat) (D : Dsk) (p' m' : Nat) (a' : Option Addr) (cap' : Nat) (D' : Dsk) (h : DiskAt w p m (.slice a D.pend.length cap) D) (h' : DiskAt w p' m' (.slice a' D'.pend.length cap') D') (hl : D.pend.length ≤ 100000) (e1 : D.limited = false) (e2 : D'.limited = false) (e4 : D.n ≠ D'.n) :
    Calls Try.prog 31 #[.pointer (some ⟨p, 0, none⟩), .pointer (some ⟨p', 0, none⟩)] w fun e w' => BoolIs w w' e (EqD D D') := by
  have HA0 : Hid (∀ W, Fr Non w W → W.cell? ⟨p, 0, none⟩ = some (.int .i64 D.n)) := fun W hW => (h.fr hW (fun _ _ h => h)).cell.1
  have HA1 : Hid (∀ W, Fr Non w W → W.cell? ⟨p, 1, none⟩ = some (.map (some m))) := fun W hW => (h.fr hW (fun _ _ h => h)).cell.2.1
  have HA2 : Hid (∀ W, Fr Non w W → W.cell? ⟨p, 2, none⟩ = some (.slice a D.pend.length cap)) := fun W hW => (h.fr hW (fun _ _ h => h)).cell.2.2.1
  have HA4 : Hid (∀ W, Fr Non w W → W.cell? ⟨p, 4, none⟩ = some (.bool D.limited)) := fun W hW => (h.fr hW (fun _ _ h => h)).cell.2.2.2.2.1
  have HA5 : Hid (∀ W, Fr Non w W → W.cell? ⟨p, 5, none⟩ = some (.int .i64 D.limit)) := fun W hW => (h.fr hW (fun _ _ h => h)).cell.2.2.2.2.2.1
  have HA6 : Hid (∀ W, Fr Non w W → W.cell? ⟨p, 6, none⟩ = some (.bool D.down)) := fun W hW => (h.fr hW (fun _ _ h => h)).cell.2.2.2.2.2.2
  have HB0 : Hid (∀ W, Fr Non w W → W.cell? ⟨p', 0, none⟩ = some (.int .i64 D'.n)) := fun W hW => (h'.fr hW (fun _ _ h => h)).cell.1
  have HB1 : Hid (∀ W, Fr Non w W → W.cell? ⟨p', 1, none⟩ = some (.map (some m'))) := fun W hW => (h'.fr hW (fun _ _ h => h)).cell.2.1
  have HB2 : Hid (∀ W, Fr Non w W → W.cell? ⟨p', 2, none⟩ = some (.slice a' D'.pend.length cap')) := fun W hW => (h'.fr hW (fun _ _ h => h)).cell.2.2.1
  have HB4 : Hid (∀ W, Fr Non w W → W.cell? ⟨p', 4, none⟩ = some (.bool D'.limited)) := fun W hW => (h'.fr hW (fun _ _ h => h)).cell.2.2.2.2.1
  have HB5 : Hid (∀ W, Fr Non w W → W.cell? ⟨p', 5, none⟩ = some (.int .i64 D'.limit)) := fun W hW => (h'.fr hW (fun _ _ h => h)).cell.2.2.2.2.2.1
  have HB6 : Hid (∀ W, Fr Non w W → W.cell? ⟨p', 6, none⟩ = some (.bool D'.down)) := fun W hW => (h'.fr hW (fun _ _ h => h)).cell.2.2.2.2.2.2
  rw [e1] at HA4
  rw [e2] at HB4
  have HNE : Hid (D.n ≠ D'.n) := e4
  have hne : (D.n == D'.n) = false := by simp [e4]
  clear e1 e2 e4
  clear h h' hl
  go_enter Try.func31, Try.ntmps31
  go_wp2_with fail
  refine rc (fun W : World => Fr Non w W) 25 (by kernel_rfl) ?_
  have hS : (fun W : World => Fr Non w W) w.drew := (Fr.refl _ w).drew
  refine tp (i := 0) (v := .pointer (some ⟨p, 0, none⟩)) rfl (by kernel_rfl) (fun _ _ _ h => h) rfl (fun W0 => by unfold RunV; go_simp) (.inr hS) ?_
  simp only [Act.put, List.setIfInBounds_toArray, List.set_cons_zero, List.set_cons_succ]
  refine tp (i := 1) (v := .pointer (some ⟨p, 0, none⟩)) rfl (by kernel_rfl) (fun _ _ _ h => h) rfl (fun W0 => by unfold RunV; go_simp) (.inr hS) ?_
  simp only [Act.put, List.setIfInBounds_toArray, List.set_cons_zero, List.set_cons_succ]
  refine tp (i := 2) (v := .pointer (some ⟨p, 4, none⟩)) rfl (by kernel_rfl) (fun _ _ _ h => h) rfl (fun W0 => by unfold RunV; go_simp) (.inr hS) ?_
  simp only [Act.put, List.setIfInBounds_toArray, List.set_cons_zero, List.set_cons_succ]
  refine tp (i := 4) (v := .pointer (some ⟨p', 0, none⟩)) rfl (by kernel_rfl) (fun _ _ _ h => h) rfl (fun W0 => by unfold RunV; go_simp) (.inr hS) ?_
  simp only [Act.put, List.setIfInBounds_toArray, List.set_cons_zero, List.set_cons_succ]
  refine tp (i := 5) (v := .pointer (some ⟨p', 0, none⟩)) rfl (by kernel_rfl) (fun _ _ _ h => h) rfl (fun W0 => by unfold RunV; go_simp) (.inr hS) ?_
  simp only [Act.put, List.setIfInBounds_toArray, List.set_cons_zero, List.set_cons_succ]
  refine tp (i := 6) (v := .pointer (some ⟨p', 4, none⟩)) rfl (by kernel_rfl) (fun _ _ _ h => h) rfl (fun W0 => by unfold RunV; go_simp) (.inr hS) ?_
  simp only [Act.put, List.setIfInBounds_toArray, List.set_cons_zero, List.set_cons_succ]
  refine tc (i := 3) (v := .bool false) rfl 8 (by kernel_rfl) (fun _ _ _ h => h) rfl (fun W0 hw => r_load1 rfl rfl (HA4.out W0 hw) (Try.isAgg4 _)) hS ?_
  simp only [Act.put, List.setIfInBounds_toArray, List.set_cons_zero, List.set_cons_succ]
  refine tc (i := 7) (v := .bool false) rfl 8 (by kernel_rfl) (fun _ _ _ h => h) rfl (fun W0 hw => r_load1 rfl rfl (HB4.out W0 hw) (Try.isAgg4 _)) hS ?_
  simp only [Act.put, List.setIfInBounds_toArray, List.set_cons_zero, List.set_cons_succ]
  refine tp (i := 8) (v := .bool false) rfl (by kernel_rfl) (fun _ _ _ h => h) rfl (fun W0 => by unfold RunV; go_simp) (.inr hS) ?_
  simp only [Act.put, List.setIfInBounds_toArray, List.set_cons_zero, List.set_cons_succ]
  refine tp (i := 9) (v := .bool false) rfl (by kernel_rfl) (fun _ _ _ h => h) rfl (fun W0 => by unfold RunV; go_simp) (.inr hS) ?_
  simp only [Act.put, List.setIfInBounds_toArray, List.set_cons_zero, List.set_cons_succ]
  refine tpg (i := 10) (v := .pointer (some ⟨p, 0, none⟩)) rfl (by kernel_rfl) (fun _ _ _ h => h) rfl (fun W0 => r_move rfl rfl) (.inr hS) ?_
  simp only [Act.put, List.setIfInBounds_toArray, List.set_cons_zero, List.set_cons_succ]
  refine tpg (i := 11) (v := .pointer (some ⟨p, 0, none⟩)) rfl (by kernel_rfl) (fun _ _ _ h => h) rfl (fun W0 => by unfold RunV; go_simp) (.inr hS) ?_
  simp only [Act.put, List.setIfInBounds_toArray, List.set_cons_zero, List.set_cons_succ]
  refine tpg (i := 12) (v := .pointer (some ⟨p, 4, none⟩)) rfl (by kernel_rfl) (fun _ _ _ h => h) rfl (fun W0 => by unfold RunV; go_simp) (.inr hS) ?_
  simp only [Act.put, List.setIfInBounds_toArray, List.set_cons_zero, List.set_cons_succ]
  refine tcg (i := 13) (v := .bool false) rfl 8 (by kernel_rfl) (fun _ _ _ h => h) rfl (fun W0 hw => r_load1 rfl rfl (HA4.out W0 hw) (Try.isAgg4 _)) hS ?_
  simp only [Act.put, List.setIfInBounds_toArray, List.set_cons_zero, List.set_cons_succ]
  refine tpg (i := 14) (v := .bool false) rfl (by kernel_rfl) (fun _ _ _ h => h) rfl (fun W0 => r_move rfl rfl) (.inr hS) ?_
  simp only [Act.put, List.setIfInBounds_toArray, List.set_cons_zero, List.set_cons_succ]
  refine tpn (i := 15) rfl (by kernel_rfl) (fun _ _ _ h => h) rfl (.inr hS) ?_
  simp only [Act.put, List.setIfInBounds_toArray, List.set_cons_zero, List.set_cons_succ]
  refine tpn (i := 16) rfl (by kernel_rfl) (fun _ _ _ h => h) rfl (.inr hS) ?_
  simp only [Act.put, List.setIfInBounds_toArray, List.set_cons_zero, List.set_cons_succ]
  refine tpn (i := 17) rfl (by kernel_rfl) (fun _ _ _ h => h) rfl (.inr hS) ?_
  simp only [Act.put, List.setIfInBounds_toArray, List.set_cons_zero, List.set_cons_succ]
  refine tpn (i := 19) rfl (by kernel_rfl) (fun _ _ _ h => h) rfl (.inr hS) ?_
  simp only [Act.put, List.setIfInBounds_toArray, List.set_cons_zero, List.set_cons_succ]
  refine tpn (i := 20) rfl (by kernel_rfl) (fun _ _ _ h => h) rfl (.inr hS) ?_
  simp only [Act.put, List.setIfInBounds_toArray, List.set_cons_zero, List.set_cons_succ]
  refine tpn (i := 21) rfl (by kernel_rfl) (fun _ _ _ h => h) rfl (.inr hS) ?_
  simp only [Act.put, List.setIfInBounds_toArray, List.set_cons_zero, List.set_cons_succ]
  refine tpn (i := 18) rfl (by kernel_rfl) (fun _ _ _ h => h) rfl (.inr hS) ?_
  simp only [Act.put, List.setIfInBounds_toArray, List.set_cons_zero, List.set_cons_succ]
  refine tpn (i := 22) rfl (by kernel_rfl) (fun _ _ _ h => h) rfl (.inr hS) ?_
  simp only [Act.put, List.setIfInBounds_toArray, List.set_cons_zero, List.set_cons_succ]
  refine tpn (i := 23) rfl (by kernel_rfl) (fun _ _ _ h => h) rfl (.inr hS) ?_
  simp only [Act.put, List.setIfInBounds_toArray, List.set_cons_zero, List.set_cons_succ]
  refine tpg (i := 24) (v := .bool false) rfl (by kernel_rfl) (fun _ _ _ h => h) rfl (fun W0 => r_pick (b := false) rfl rfl rfl) (.inr hS) ?_
  simp only [Act.put, List.setIfInBounds_toArray, List.set_cons_zero, List.set_cons_succ]
  refine oc2 (i := 25) (v := .bool false) rfl (by kernel_rfl) rfl (by kernel_rfl) (r_pick (b := false) rfl rfl rfl) ?_
  simp only [Act.put, List.setIfInBounds_toArray, List.set_cons_zero, List.set_cons_succ]
  refine dc (by kernel_rfl) ?_
  clear hS
  have HF1D : Hid (Fr Non w w.drew.drew) := ((Fr.refl _ w).drew).drew
  generalize w.drew = w1 at *
  go_wp2_with fail
  refine rc (fun W : World => Fr Non w W) 42 (by kernel_rfl) ?_
  have hS : (fun W : World => Fr Non w W) w1.drew := HF1D.out
  refine tp (i := 0) (v := .pointer (some ⟨p, 0, none⟩)) rfl (by kernel_rfl) (fun _ _ _ h => h) rfl (fun W0 => by unfold RunV; go_simp) (.inr hS) ?_
  simp only [Act.put, List.setIfInBounds_toArray, List.set_cons_zero, List.set_cons_succ]
  refine tp (i := 1) (v := .pointer (some ⟨p, 0, none⟩)) rfl (by kernel_rfl) (fun _ _ _ h => h) rfl (fun W0 => by unfold RunV; go_simp) (.inr hS) ?_
  simp only [Act.put, List.setIfInBounds_toArray, List.set_cons_zero, List.set_cons_succ]
  refine tp (i := 2) (v := .pointer (some ⟨p, 0, none⟩)) rfl (by kernel_rfl) (fun _ _ _ h => h) rfl (fun W0 => by unfold RunV; go_simp) (.inr hS) ?_
  simp only [Act.put, List.setIfInBounds_toArray, List.set_cons_zero, List.set_cons_succ]
  refine tp (i := 4) (v := .pointer (some ⟨p', 0, none⟩)) rfl (by kernel_rfl) (fun _ _ _ h => h) rfl (fun W0 => by unfold RunV; go_simp) (.inr hS) ?_
  simp only [Act.put, List.setIfInBounds_toArray, List.set_cons_zero, List.set_cons_succ]
  refine tp (i := 5) (v := .pointer (some ⟨p', 0, none⟩)) rfl (by kernel_rfl) (fun _ _ _ h => h) rfl (fun W0 => by unfold RunV; go_simp) (.inr hS) ?_
  simp only [Act.put, List.setIfInBounds_toArray, List.set_cons_zero, List.set_cons_succ]
  refine tp (i := 6) (v := .pointer (some ⟨p', 0, none⟩)) rfl (by kernel_rfl) (fun _ _ _ h => h) rfl (fun W0 => by unfold RunV; go_simp) (.inr hS) ?_
  simp only [Act.put, List.setIfInBounds_toArray, List.set_cons_zero, List.set_cons_succ]
  refine tc (i := 3) (v := .int .i64 D.n) rfl 8 (by kernel_rfl) (fun _ _ _ h => h) rfl (fun W0 hw => r_load1 rfl rfl (HA0.out W0 hw) (Try.isAgg3 _)) hS ?_
  simp only [Act.put, List.setIfInBounds_toArray, List.set_cons_zero, List.set_cons_succ]
  refine tc (i := 7) (v := .int .i64 D'.n) rfl 8 (by kernel_rfl) (fun _ _ _ h => h) rfl (fun W0 hw => r_load1 rfl rfl (HB0.out W0 hw) (Try.isAgg3 _)) hS ?_
  simp only [Act.put, List.setIfInBounds_toArray, List.set_cons_zero, List.set_cons_succ]
  refine tp (i := 8) (v := .bool false) rfl (by kernel_rfl) (fun _ _ _ h => h) rfl (fun W0 => by unfold RunV; go_simp) (.inr hS) ?_
  simp only [Act.put, List.setIfInBounds_toArray, List.set_cons_zero, List.set_cons_succ]
  refine tp (i := 9) (v := .bool false) rfl (by kernel_rfl) (fun _ _ _ h => h) rfl (fun W0 => by unfold RunV; go_simp) (.inr hS) ?_
  simp only [Act.put, List.setIfInBounds_toArray, List.set_cons_zero, List.set_cons_succ]
  refine tpn (i := 10) rfl (by kernel_rfl) (fun _ _ _ h => h) rfl (.inr hS) ?_
  simp only [Act.put, List.setIfInBounds_toArray, List.set_cons_zero, List.set_cons_succ]
  refine tpn (i := 11) rfl (by kernel_rfl) (fun _ _ _ h => h) rfl (.inr hS) ?_
  simp only [Act.put, List.setIfInBounds_toArray, List.set_cons_zero, List.set_cons_succ]
  refine tpn (i := 12) rfl (by kernel_rfl) (fun _ _ _ h => h) rfl (.inr hS) ?_
  simp only [Act.put, List.setIfInBounds_toArray, List.set_cons_zero, List.set_cons_succ]
  refine tpn (i := 14) rfl (by kernel_rfl) (fun _ _ _ h => h) rfl (.inr hS) ?_
  simp only [Act.put, List.setIfInBounds_toArray, List.set_cons_zero, List.set_cons_succ]
  refine tpn (i := 15) rfl (by kernel_rfl) (fun _ _ _ h => h) rfl (.inr hS) ?_
  simp only [Act.put, List.setIfInBounds_toArray, List.set_cons_zero, List.set_cons_succ]
  refine tpn (i := 16) rfl (by kernel_rfl) (fun _ _ _ h => h) rfl (.inr hS) ?_
  simp only [Act.put, List.setIfInBounds_toArray, List.set_cons_zero, List.set_cons_succ]
  refine tpn (i := 13) rfl (by kernel_rfl) (fun _ _ _ h => h) rfl (.inr hS) ?_
  simp only [Act.put, List.setIfInBounds_toArray, List.set_cons_zero, List.set_cons_succ]
  refine tpn (i := 17) rfl (by kernel_rfl) (fun _ _ _ h => h) rfl (.inr hS) ?_
  simp only [Act.put, List.setIfInBounds_toArray, List.set_cons_zero, List.set_cons_succ]
  refine tpn (i := 18) rfl (by kernel_rfl) (fun _ _ _ h => h) rfl (.inr hS) ?_
  simp only [Act.put, List.setIfInBounds_toArray, List.set_cons_zero, List.set_cons_succ]
  refine tp (i := 19) (v := .bool false) rfl (by kernel_rfl) (fun _ _ _ h => h) rfl (fun W0 => r_pick (b := false) rfl rfl rfl) (.inr hS) ?_
  simp only [Act.put, List.setIfInBounds_toArray, List.set_cons_zero, List.set_cons_succ]
  refine tp (i := 20) (v := .bool false) rfl (by kernel_rfl) (fun _ _ _ h => h) rfl (fun W0 => by unfold RunV; go_simp) (.inr hS) ?_
  simp only [Act.put, List.setIfInBounds_toArray, List.set_cons_zero, List.set_cons_succ]
  refine tpn (i := 21) rfl (by kernel_rfl) (fun _ _ _ h => h) rfl (.inr hS) ?_
  simp only [Act.put, List.setIfInBounds_toArray, List.set_cons_zero, List.set_cons_succ]
  refine tpn (i := 22) rfl (by kernel_rfl) (fun _ _ _ h => h) rfl (.inr hS) ?_
  simp only [Act.put, List.setIfInBounds_toArray, List.set_cons_zero, List.set_cons_succ]
  refine tpn (i := 23) rfl (by kernel_rfl) (fun _ _ _ h => h) rfl (.inr hS) ?_
  simp only [Act.put, List.setIfInBounds_toArray, List.set_cons_zero, List.set_cons_succ]
  refine tpn (i := 25) rfl (by kernel_rfl) (fun _ _ _ h => h) rfl (.inr hS) ?_
  simp only [Act.put, List.setIfInBounds_toArray, List.set_cons_zero, List.set_cons_succ]
  refine tpn (i := 26) rfl (by kernel_rfl) (fun _ _ _ h => h) rfl (.inr hS) ?_
  simp only [Act.put, List.setIfInBounds_toArray, List.set_cons_zero, List.set_cons_succ]
  refine tpn (i := 27) rfl (by kernel_rfl) (fun _ _ _ h => h) rfl (.inr hS) ?_
  simp only [Act.put, List.setIfInBounds_toArray, List.set_cons_zero, List.set_cons_succ]
  refine tpn (i := 24) rfl (by kernel_rfl) (fun _ _ _ h => h) rfl (.inr hS) ?_
  simp only [Act.put, List.setIfInBounds_toArray, List.set_cons_zero, List.set_cons_succ]
  refine tpn (i := 28) rfl (by kernel_rfl) (fun _ _ _ h => h) rfl (.inr hS) ?_
  simp only [Act.put, List.setIfInBounds_toArray, List.set_cons_zero, List.set_cons_succ]
  refine tpn (i := 29) rfl (by kernel_rfl) (fun _ _ _ h => h) rfl (.inr hS) ?_
  simp only [Act.put, List.setIfInBounds_toArray, List.set_cons_zero, List.set_cons_succ]
  refine tp (i := 30) (v := .bool false) rfl (by kernel_rfl) (fun _ _ _ h => h) rfl (fun W0 => r_pick (b := false) rfl rfl rfl) (.inr hS) ?_
  simp only [Act.put, List.setIfInBounds_toArray, List.set_cons_zero, List.set_cons_succ]
  refine tp (i := 31) (v := .bool false) rfl (by kernel_rfl) (fun _ _ _ h => h) rfl (fun W0 => by unfold RunV; go_simp) (.inr hS) ?_
  simp only [Act.put, List.setIfInBounds_toArray, List.set_cons_zero, List.set_cons_succ]
  refine tpn (i := 32) rfl (by kernel_rfl) (fun _ _ _ h => h) rfl (.inr hS) ?_
  simp only [Act.put, List.setIfInBounds_toArray, List.set_cons_zero, List.set_cons_succ]
  refine tpn (i := 33) rfl (by kernel_rfl) (fun _ _ _ h => h) rfl (.inr hS) ?_
  simp only [Act.put, List.setIfInBounds_toArray, List.set_cons_zero, List.set_cons_succ]
  refine tpn (i := 34) rfl (by kernel_rfl) (fun _ _ _ h => h) rfl (.inr hS) ?_
  simp only [Act.put, List.setIfInBounds_toArray, List.set_cons_zero, List.set_cons_succ]
  refine tpn (i := 36) rfl (by kernel_rfl) (fun _ _ _ h => h) rfl (.inr hS) ?_
  simp only [Act.put, List.setIfInBounds_toArray, List.set_cons_zero, List.set_cons_succ]
  refine tpn (i := 37) rfl (by kernel_rfl) (fun _ _ _ h => h) rfl (.inr hS) ?_
  simp only [Act.put, List.setIfInBounds_toArray, List.set_cons_zero, List.set_cons_succ]
  refine tpn (i := 38) rfl (by kernel_rfl) (fun _ _ _ h => h) rfl (.inr hS) ?_
  simp only [Act.put, List.setIfInBounds_toArray, List.set_cons_zero, List.set_cons_succ]
  refine tpn (i := 35) rfl (by kernel_rfl) (fun _ _ _ h => h) rfl (.inr hS) ?_
  simp only [Act.put, List.setIfInBounds_toArray, List.set_cons_zero, List.set_cons_succ]
  refine tpn (i := 39) rfl (by kernel_rfl) (fun _ _ _ h => h) rfl (.inr hS) ?_
  simp only [Act.put, List.setIfInBounds_toArray, List.set_cons_zero, List.set_cons_succ]
  refine tpn (i := 40) rfl (by kernel_rfl) (fun _ _ _ h => h) rfl (.inr hS) ?_
  simp only [Act.put, List.setIfInBounds_toArray, List.set_cons_zero, List.set_cons_succ]
  refine tp (i := 41) (v := .bool false) rfl (by kernel_rfl) (fun _ _ _ h => h) rfl (fun W0 => r_pick (b := false) rfl rfl rfl) (.inr hS) ?_
  simp only [Act.put, List.setIfInBounds_toArray, List.set_cons_zero, List.set_cons_succ]
  refine oc2 (i := 42) (v := .bool false) rfl (by kernel_rfl) rfl (by kernel_rfl) (r_assign rfl rfl) ?_
  simp only [Act.put, List.setIfInBounds_toArray, List.set_cons_zero, List.set_cons_succ]
  refine dc (by kernel_rfl) ?_
  clear hS
  go_wp2_with fail
  go_ret
  exact ⟨false, rfl, ⟨fun h => (by cases h), fun h => (absurd h.2.2.1 HNE.out)⟩, HF1D.out⟩
set_option linter.unusedVariables false in
set_option maxRecDepth 100000 in
set_option maxHeartbeats 2000000 in
theorem Equal_false_d (w : World) (p m : Nat) (a : Option Addr) (cap : Nat) (D : Dsk) (p' m' : Nat) (a' : Option Addr) (cap' : Nat) (D' : Dsk) (h : DiskAt w p m (.slice a D.pend.length cap) D) (h' : DiskAt w p' m' (.slice a' D'.pend.length cap') D') (hl : D.pend.length ≤ 100000) (e1 : D.limited = false) (e2 : D'.limited = false) (e4 : D.n = D'.n) (e5 : D.down ≠ D'.down) :
    Calls Try.prog 31 #[.pointer (some ⟨p, 0, none⟩), .pointer (some ⟨p', 0, none⟩)] w fun e w' => BoolIs w w' e (EqD D D') := by
  have HA0 : Hid (∀ W, Fr Non w W → W.cell? ⟨p, 0, none⟩ = some (.int .i64 D.n)) := fun W hW => (h.fr hW (fun _ _ h => h)).cell.1
  have HA1 : Hid (∀ W, Fr Non w W → W.cell? ⟨p, 1, none⟩ = some (.map (some m))) := fun W hW => (h.fr hW (fun _ _ h => h)).cell.2.1
  have HA2 : Hid (∀ W, Fr Non w W → W.cell? ⟨p, 2, none⟩ = some (.slice a D.pend.length cap)) := fun W hW => (h.fr hW (fun _ _ h => h)).cell.2.2.1
  have HA4 : Hid (∀ W, Fr Non w W → W.cell? ⟨p, 4, none⟩ = some (.bool D.limited)) := fun W hW => (h.fr hW (fun _ _ h => h)).cell.2.2.2.2.1
  have HA5 : Hid (∀ W, Fr Non w W → W.cell? ⟨p, 5, none⟩ = some (.int .i64 D.limit)) := fun W hW => (h.fr hW (fun _ _ h => h)).cell.2.2.2.2.2.1
  have HA6 : Hid (∀ W, Fr Non w W → W.cell? ⟨p, 6, none⟩ = some (.bool D.down)) := fun W hW => (h.fr hW (fun _ _ h => h)).cell.2.2.2.2.2.2
  have HB0 : Hid (∀ W, Fr Non w W → W.cell? ⟨p', 0, none⟩ = some (.int .i64 D'.n)) := fun W hW => (h'.fr hW (fun _ _ h => h)).cell.1
  have HB1 : Hid (∀ W, Fr Non w W → W.cell? ⟨p', 1, none⟩ = some (.map (some m'))) := fun W hW => (h'.fr hW (fun _ _ h => h)).cell.2.1
  have HB2 : Hid (∀ W, Fr Non w W → W.cell? ⟨p', 2, none⟩ = some (.slice a' D'.pend.length cap')) := fun W hW => (h'.fr hW (fun _ _ h => h)).cell.2.2.1
  have HB4 : Hid (∀ W, Fr Non w W → W.cell? ⟨p', 4, none⟩ = some (.bool D'.limited)) := fun W hW => (h'.fr hW (fun _ _ h => h)).cell.2.2.2.2.1
  have HB5 : Hid (∀ W, Fr Non w W → W.cell? ⟨p', 5, none⟩ = some (.int .i64 D'.limit)) := fun W hW => (h'.fr hW (fun _ _ h => h)).cell.2.2.2.2.2.1
  have HB6 : Hid (∀ W, Fr Non w W → W.cell? ⟨p', 6, none⟩ = some (.bool D'.down)) := fun W hW => (h'.fr hW (fun _ _ h => h)).cell.2.2.2.2.2.2
  rw [e1] at HA4
  rw [e2] at HB4
  rw [← e4] at HB0
  have HND : Hid (D.down ≠ D'.down) := e5
  have HNE : Hid ((D.down == D'.down) = false) := by have := e5; cases h1 : D.down <;> cases h2 : D'.down <;> simp_all
  clear e1 e2 e4 e5
  clear h h' hl
  go_enter Try.func31, Try.ntmps31
  go_wp2_with fail
  refine rc (fun W : World => Fr Non w W) 25 (by kernel_rfl) ?_
  have hS : (fun W : World => Fr Non w W) w.drew := (Fr.refl _ w).drew
  refine tp (i := 0) (v := .pointer (some ⟨p, 0, none⟩)) rfl (by kernel_rfl) (fun _ _ _ h => h) rfl (fun W0 => by unfold RunV; go_simp) (.inr hS) ?_
  simp only [Act.put, List.setIfInBounds_toArray, List.set_cons_zero, List.set_cons_succ]
  refine tp (i := 1) (v := .pointer (some ⟨p, 0, none⟩)) rfl (by kernel_rfl) (fun _ _ _ h => h) rfl (fun W0 => by unfold RunV; go_simp) (.inr hS) ?_
  simp only [Act.put, List.setIfInBounds_toArray, List.set_cons_zero, List.set_cons_succ]
  refine tp (i := 2) (v := .pointer (some ⟨p, 4, none⟩)) rfl (by kernel_rfl) (fun _ _ _ h => h) rfl (fun W0 => by unfold RunV; go_simp) (.inr hS) ?_
  simp only [Act.put, List.setIfInBounds_toArray, List.set_cons_zero, List.set_cons_succ]
  refine tp (i := 4) (v := .pointer (some ⟨p', 0, none⟩)) rfl (by kernel_rfl) (fun _ _ _ h => h) rfl (fun W0 => by unfold RunV; go_simp) (.inr hS) ?_
  simp only [Act.put, List.setIfInBounds_toArray, List.set_cons_zero, List.set_cons_succ]
  refine tp (i := 5) (v := .pointer (some ⟨p', 0, none⟩)) rfl (by kernel_rfl) (fun _ _ _ h => h) rfl (fun W0 => by unfold RunV; go_simp) (.inr hS) ?_
  simp only [Act.put, List.setIfInBounds_toArray, List.set_cons_zero, List.set_cons_succ]
  refine tp (i := 6) (v := .pointer (some ⟨p', 4, none⟩)) rfl (by kernel_rfl) (fun _ _ _ h => h) rfl (fun W0 => by unfold RunV; go_simp) (.inr hS) ?_
  simp only [Act.put, List.setIfInBounds_toArray, List.set_cons_zero, List.set_cons_succ]
  refine tc (i := 3) (v := .bool false) rfl 8 (by kernel_rfl) (fun _ _ _ h => h) rfl (fun W0 hw => r_load1 rfl rfl (HA4.out W0 hw) (Try.isAgg4 _)) hS ?_
  simp only [Act.put, List.setIfInBounds_toArray, List.set_cons_zero, List.set_cons_succ]
  refine tc (i := 7) (v := .bool false) rfl 8 (by kernel_rfl) (fun _ _ _ h => h) rfl (fun W0 hw => r_load1 rfl rfl (HB4.out W0 hw) (Try.isAgg4 _)) hS ?_
  simp only [Act.put, List.setIfInBounds_toArray, List.set_cons_zero, List.set_cons_succ]
  refine tp (i := 8) (v := .bool false) rfl (by kernel_rfl) (fun _ _ _ h => h) rfl (fun W0 => by unfold RunV; go_simp) (.inr hS) ?_
  simp only [Act.put, List.setIfInBounds_toArray, List.set_cons_zero, List.set_cons_succ]
  refine tp (i := 9) (v := .bool false) rfl (by kernel_rfl) (fun _ _ _ h => h) rfl (fun W0 => by unfold RunV; go_simp) (.inr hS) ?_
  simp only [Act.put, List.setIfInBounds_toArray, List.set_cons_zero, List.set_cons_succ]
  refine tpg (i := 10) (v := .pointer (some ⟨p, 0, none⟩)) rfl (by kernel_rfl) (fun _ _ _ h => h) rfl (fun W0 => r_move rfl rfl) (.inr hS) ?_
  simp only [Act.put, List.setIfInBounds_toArray, List.set_cons_zero, List.set_cons_succ]
  refine tpg (i := 11) (v := .pointer (some ⟨p, 0, none⟩)) rfl (by kernel_rfl) (fun _ _ _ h => h) rfl (fun W0 => by unfold RunV; go_simp) (.inr hS) ?_
  simp only [Act.put, List.setIfInBounds_toArray, List.set_cons_zero, List.set_cons_succ]
  refine tpg (i := 12) (v := .pointer (some ⟨p, 4, none⟩)) rfl (by kernel_rfl) (fun _ _ _ h => h) rfl (fun W0 => by unfold RunV; go_simp) (.inr hS) ?_
  simp only [Act.put, List.setIfInBounds_toArray, List.set_cons_zero, List.set_cons_succ]
  refine tcg (i := 13) (v := .bool false) rfl 8 (by kernel_rfl) (fun _ _ _ h => h) rfl (fun W0 hw => r_load1 rfl rfl (HA4.out W0 hw) (Try.isAgg4 _)) hS ?_
  simp only [Act.put, List.setIfInBounds_toArray, List.set_cons_zero, List.set_cons_succ]
  refine tpg (i := 14) (v := .bool false) rfl (by kernel_rfl) (fun _ _ _ h => h) rfl (fun W0 => r_move rfl rfl) (.inr hS) ?_
  simp only [Act.put, List.setIfInBounds_toArray, List.set_cons_zero, List.set_cons_succ]
  refine tpn (i := 15) rfl (by kernel_rfl) (fun _ _ _ h => h) rfl (.inr hS) ?_
  simp only [Act.put, List.setIfInBounds_toArray, List.set_cons_zero, List.set_cons_succ]
  refine tpn (i := 16) rfl (by kernel_rfl) (fun _ _ _ h => h) rfl (.inr hS) ?_
  simp only [Act.put, List.setIfInBounds_toArray, List.set_cons_zero, List.set_cons_succ]
  refine tpn (i := 17) rfl (by kernel_rfl) (fun _ _ _ h => h) rfl (.inr hS) ?_
  simp only [Act.put, List.setIfInBounds_toArray, List.set_cons_zero, List.set_cons_succ]
  refine tpn (i := 19) rfl (by kernel_rfl) (fun _ _ _ h => h) rfl (.inr hS) ?_
  simp only [Act.put, List.setIfInBounds_toArray, List.set_cons_zero, List.set_cons_succ]
  refine tpn (i := 20) rfl (by kernel_rfl) (fun _ _ _ h => h) rfl (.inr hS) ?_
  simp only [Act.put, List.setIfInBounds_toArray, List.set_cons_zero, List.set_cons_succ]
  refine tpn (i := 21) rfl (by kernel_rfl) (fun _ _ _ h => h) rfl (.inr hS) ?_
  simp only [Act.put, List.setIfInBounds_toArray, List.set_cons_zero, List.set_cons_succ]
  refine tpn (i := 18) rfl (by kernel_rfl) (fun _ _ _ h => h) rfl (.inr hS) ?_
  simp only [Act.put, List.setIfInBounds_toArray, List.set_cons_zero, List.set_cons_succ]
  refine tpn (i := 22) rfl (by kernel_rfl) (fun _ _ _ h => h) rfl (.inr hS) ?_
  simp only [Act.put, List.setIfInBounds_toArray, List.set_cons_zero, List.set_cons_succ]
  refine tpn (i := 23) rfl (by kernel_rfl) (fun _ _ _ h => h) rfl (.inr hS) ?_
  simp only [Act.put, List.setIfInBounds_toArray, List.set_cons_zero, List.set_cons_succ]
  refine tpg (i := 24) (v := .bool false) rfl (by kernel_rfl) (fun _ _ _ h => h) rfl (fun W0 => r_pick (b := false) rfl rfl rfl) (.inr hS) ?_
  simp only [Act.put, List.setIfInBounds_toArray, List.set_cons_zero, List.set_cons_succ]
  refine oc2 (i := 25) (v := .bool false) rfl (by kernel_rfl) rfl (by kernel_rfl) (r_pick (b := false) rfl rfl rfl) ?_
  simp only [Act.put, List.setIfInBounds_toArray, List.set_cons_zero, List.set_cons_succ]
  refine dc (by kernel_rfl) ?_
  clear hS
  have HF1D : Hid (Fr Non w w.drew.drew) := ((Fr.refl _ w).drew).drew
  generalize w.drew = w1 at *
  go_wp2_with fail
  refine rc (fun W : World => Fr Non w W) 42 (by kernel_rfl) ?_
  have hS : (fun W : World => Fr Non w W) w1.drew := HF1D.out
  refine tp (i := 0) (v := .pointer (some ⟨p, 0, none⟩)) rfl (by kernel_rfl) (fun _ _ _ h => h) rfl (fun W0 => by unfold RunV; go_simp) (.inr hS) ?_
  simp only [Act.put, List.setIfInBounds_toArray, List.set_cons_zero, List.set_cons_succ]
  refine tp (i := 1) (v := .pointer (some ⟨p, 0, none⟩)) rfl (by kernel_rfl) (fun _ _ _ h => h) rfl (fun W0 => by unfold RunV; go_simp) (.inr hS) ?_
  simp only [Act.put, List.setIfInBounds_toArray, List.set_cons_zero, List.set_cons_succ]
  refine tp (i := 2) (v := .pointer (some ⟨p, 0, none⟩)) rfl (by kernel_rfl) (fun _ _ _ h => h) rfl (fun W0 => by unfold RunV; go_simp) (.inr hS) ?_
  simp only [Act.put, List.setIfInBounds_toArray, List.set_cons_zero, List.set_cons_succ]
  refine tp (i := 4) (v := .pointer (some ⟨p', 0, none⟩)) rfl (by kernel_rfl) (fun _ _ _ h => h) rfl (fun W0 => by unfold RunV; go_simp) (.inr hS) ?_
  simp only [Act.put, List.setIfInBounds_toArray, List.set_cons_zero, List.set_cons_succ]
  refine tp (i := 5) (v := .pointer (some ⟨p', 0, none⟩)) rfl (by kernel_rfl) (fun _ _ _ h => h) rfl (fun W0 => by unfold RunV; go_simp) (.inr hS) ?_
  simp only [Act.put, List.setIfInBounds_toArray, List.set_cons_zero, List.set_cons_succ]
  refine tp (i := 6) (v := .pointer (some ⟨p', 0, none⟩)) rfl (by kernel_rfl) (fun _ _ _ h => h) rfl (fun W0 => by unfold RunV; go_simp) (.inr hS) ?_
  simp only [Act.put, List.setIfInBounds_toArray, List.set_cons_zero, List.set_cons_succ]
  refine tc (i := 3) (v := .int .i64 D.n) rfl 8 (by kernel_rfl) (fun _ _ _ h => h) rfl (fun W0 hw => r_load1 rfl rfl (HA0.out W0 hw) (Try.isAgg3 _)) hS ?_
  simp only [Act.put, List.setIfInBounds_toArray, List.set_cons_zero, List.set_cons_succ]
  refine tc (i := 7) (v := .int .i64 D.n) rfl 8 (by kernel_rfl) (fun _ _ _ h => h) rfl (fun W0 hw => r_load1 rfl rfl (HB0.out W0 hw) (Try.isAgg3 _)) hS ?_
  simp only [Act.put, List.setIfInBounds_toArray, List.set_cons_zero, List.set_cons_succ]
  refine tp (i := 8) (v := .bool true) rfl (by kernel_rfl) (fun _ _ _ h => h) rfl (fun W0 => by unfold RunV; go_simp) (.inr hS) ?_
  simp only [Act.put, List.setIfInBounds_toArray, List.set_cons_zero, List.set_cons_succ]
  refine tp (i := 9) (v := .bool true) rfl (by kernel_rfl) (fun _ _ _ h => h) rfl (fun W0 => by unfold RunV; go_simp) (.inr hS) ?_
  simp only [Act.put, List.setIfInBounds_toArray, List.set_cons_zero, List.set_cons_succ]
  refine tpg (i := 10) (v := .pointer (some ⟨p, 0, none⟩)) rfl (by kernel_rfl) (fun _ _ _ h => h) rfl (fun W0 => r_move rfl rfl) (.inr hS) ?_
  simp only [Act.put, List.setIfInBounds_toArray, List.set_cons_zero, List.set_cons_succ]
  refine tpg (i := 11) (v := .pointer (some ⟨p, 0, none⟩)) rfl (by kernel_rfl) (fun _ _ _ h => h) rfl (fun W0 => by unfold RunV; go_simp) (.inr hS) ?_
  simp only [Act.put, List.setIfInBounds_toArray, List.set_cons_zero, List.set_cons_succ]
  refine tpg (i := 12) (v := .pointer (some ⟨p, 6, none⟩)) rfl (by kernel_rfl) (fun _ _ _ h => h) rfl (fun W0 => by unfold RunV; go_simp) (.inr hS) ?_
  simp only [Act.put, List.setIfInBounds_toArray, List.set_cons_zero, List.set_cons_succ]
  refine tpg (i := 14) (v := .pointer (some ⟨p', 0, none⟩)) rfl (by kernel_rfl) (fun _ _ _ h => h) rfl (fun W0 => r_move rfl rfl) (.inr hS) ?_
  simp only [Act.put, List.setIfInBounds_toArray, List.set_cons_zero, List.set_cons_succ]
  refine tpg (i := 15) (v := .pointer (some ⟨p', 0, none⟩)) rfl (by kernel_rfl) (fun _ _ _ h => h) rfl (fun W0 => by unfold RunV; go_simp) (.inr hS) ?_
  simp only [Act.put, List.setIfInBounds_toArray, List.set_cons_zero, List.set_cons_succ]
  refine tpg (i := 16) (v := .pointer (some ⟨p', 6, none⟩)) rfl (by kernel_rfl) (fun _ _ _ h => h) rfl (fun W0 => by unfold RunV; go_simp) (.inr hS) ?_
  simp only [Act.put, List.setIfInBounds_toArray, List.set_cons_zero, List.set_cons_succ]
  refine tcg (i := 13) (v := .bool D.down) rfl 8 (by kernel_rfl) (fun _ _ _ h => h) rfl (fun W0 hw => r_load1 rfl rfl (HA6.out W0 hw) (Try.isAgg4 _)) hS ?_
  simp only [Act.put, List.setIfInBounds_toArray, List.set_cons_zero, List.set_cons_succ]
  refine tcg (i := 17) (v := .bool D'.down) rfl 8 (by kernel_rfl) (fun _ _ _ h => h) rfl (fun W0 hw => r_load1 rfl rfl (HB6.out W0 hw) (Try.isAgg4 _)) hS ?_
  simp only [Act.put, List.setIfInBounds_toArray, List.set_cons_zero, List.set_cons_succ]
  refine tpg (i := 18) (v := .bool false) rfl (by kernel_rfl) (fun _ _ _ h => h) rfl (fun W0 => run_eqlB rfl Try.underlying4 rfl rfl HNE.out) (.inr hS) ?_
  simp only [Act.put, List.setIfInBounds_toArray, List.set_cons_zero, List.set_cons_succ]
  refine tp (i := 19) (v := .bool false) rfl (by kernel_rfl) (fun _ _ _ h => h) rfl (fun W0 => r_pick (b := true) rfl rfl rfl) (.inr hS) ?_
  simp only [Act.put, List.setIfInBounds_toArray, List.set_cons_zero, List.set_cons_succ]
  refine tp (i := 20) (v := .bool false) rfl (by kernel_rfl) (fun _ _ _ h => h) rfl (fun W0 => by unfold RunV; go_simp) (.inr hS) ?_
  simp only [Act.put, List.setIfInBounds_toArray, List.set_cons_zero, List.set_cons_succ]
  refine tpn (i := 21) rfl (by kernel_rfl) (fun _ _ _ h => h) rfl (.inr hS) ?_
  simp only [Act.put, List.setIfInBounds_toArray, List.set_cons_zero, List.set_cons_succ]
  refine tpn (i := 22) rfl (by kernel_rfl) (fun _ _ _ h => h) rfl (.inr hS) ?_
  simp only [Act.put, List.setIfInBounds_toArray, List.set_cons_zero, List.set_cons_succ]
  refine tpn (i := 23) rfl (by kernel_rfl) (fun _ _ _ h => h) rfl (.inr hS) ?_
  simp only [Act.put, List.setIfInBounds_toArray, List.set_cons_zero, List.set_cons_succ]
  refine tpn (i := 25) rfl (by kernel_rfl) (fun _ _ _ h => h) rfl (.inr hS) ?_
  simp only [Act.put, List.setIfInBounds_toArray, List.set_cons_zero, List.set_cons_succ]
  refine tpn (i := 26) rfl (by kernel_rfl) (fun _ _ _ h => h) rfl (.inr hS) ?_
  simp only [Act.put, List.setIfInBounds_toArray, List.set_cons_zero, List.set_cons_succ]
  refine tpn (i := 27) rfl (by kernel_rfl) (fun _ _ _ h => h) rfl (.inr hS) ?_
  simp only [Act.put, List.setIfInBounds_toArray, List.set_cons_zero, List.set_cons_succ]
  refine tpn (i := 24) rfl (by kernel_rfl) (fun _ _ _ h => h) rfl (.inr hS) ?_
  simp only [Act.put, List.setIfInBounds_toArray, List.set_cons_zero, List.set_cons_succ]
  refine tpn (i := 28) rfl (by kernel_rfl) (fun _ _ _ h => h) rfl (.inr hS) ?_
  simp only [Act.put, List.setIfInBounds_toArray, List.set_cons_zero, List.set_cons_succ]
  refine tpn (i := 29) rfl (by kernel_rfl) (fun _ _ _ h => h) rfl (.inr hS) ?_
  simp only [Act.put, List.setIfInBounds_toArray, List.set_cons_zero, List.set_cons_succ]
  refine tp (i := 30) (v := .bool false) rfl (by kernel_rfl) (fun _ _ _ h => h) rfl (fun W0 => r_pick (b := false) rfl rfl rfl) (.inr hS) ?_
  simp only [Act.put, List.setIfInBounds_toArray, List.set_cons_zero, List.set_cons_succ]
  refine tp (i := 31) (v := .bool false) rfl (by kernel_rfl) (fun _ _ _ h => h) rfl (fun W0 => by unfold RunV; go_simp) (.inr hS) ?_
  simp only [Act.put, List.setIfInBounds_toArray, List.set_cons_zero, List.set_cons_succ]
  refine tpn (i := 32) rfl (by kernel_rfl) (fun _ _ _ h => h) rfl (.inr hS) ?_
  simp only [Act.put, List.setIfInBounds_toArray, List.set_cons_zero, List.set_cons_succ]
  refine tpn (i := 33) rfl (by kernel_rfl) (fun _ _ _ h => h) rfl (.inr hS) ?_
  simp only [Act.put, List.setIfInBounds_toArray, List.set_cons_zero, List.set_cons_succ]
  refine tpn (i := 34) rfl (by kernel_rfl) (fun _ _ _ h => h) rfl (.inr hS) ?_
  simp only [Act.put, List.setIfInBounds_toArray, List.set_cons_zero, List.set_cons_succ]
  refine tpn (i := 36) rfl (by kernel_rfl) (fun _ _ _ h => h) rfl (.inr hS) ?_
  simp only [Act.put, List.setIfInBounds_toArray, List.set_cons_zero, List.set_cons_succ]
  refine tpn (i := 37) rfl (by kernel_rfl) (fun _ _ _ h => h) rfl (.inr hS) ?_
  simp only [Act.put, List.setIfInBounds_toArray, List.set_cons_zero, List.set_cons_succ]
  refine tpn (i := 38) rfl (by kernel_rfl) (fun _ _ _ h => h) rfl (.inr hS) ?_
  simp only [Act.put, List.setIfInBounds_toArray, List.set_cons_zero, List.set_cons_succ]
  refine tpn (i := 35) rfl (by kernel_rfl) (fun _ _ _ h => h) rfl (.inr hS) ?_
  simp only [Act.put, List.setIfInBounds_toArray, List.set_cons_zero, List.set_cons_succ]
  refine tpn (i := 39) rfl (by kernel_rfl) (fun _ _ _ h => h) rfl (.inr hS) ?_
  simp only [Act.put, List.setIfInBounds_toArray, List.set_cons_zero, List.set_cons_succ]
  refine tpn (i := 40) rfl (by kernel_rfl) (fun _ _ _ h => h) rfl (.inr hS) ?_
  simp only [Act.put, List.setIfInBounds_toArray, List.set_cons_zero, List.set_cons_succ]
  refine tp (i := 41) (v := .bool false) rfl (by kernel_rfl) (fun _ _ _ h => h) rfl (fun W0 => r_pick (b := false) rfl rfl rfl) (.inr hS) ?_
  simp only [Act.put, List.setIfInBounds_toArray, List.set_cons_zero, List.set_cons_succ]
  refine oc2 (i := 42) (v := .bool false) rfl (by kernel_rfl) rfl (by kernel_rfl) (r_assign rfl rfl) ?_
  simp only [Act.put, List.setIfInBounds_toArray, List.set_cons_zero, List.set_cons_succ]
  refine dc (by kernel_rfl) ?_
  clear hS
  go_wp2_with fail
  go_ret
  exact ⟨false, rfl, ⟨fun h => (by cases h), fun h => (absurd h.2.2.2.1 HND.out)⟩, HF1D.out⟩
set_option linter.unusedVariables false in
set_option maxRecDepth 100000 in
set_option maxHeartbeats 2000000 in
theorem Equal_false_x (w : World) (p m : Nat) (a : Option Addr) (cap : Nat) (D : Dsk) (p' m' : Nat) (a' : Option Addr) (cap' : Nat) (D' : Dsk) (h : DiskAt w p m (.slice a D.pend.length cap) D) (h' : DiskAt w p' m' (.slice a' D'.pend.length cap') D') (hl : D.pend.length ≤ 100000) (e1 : D.limited = false) (e2 : D'.limited = false) (e4 : D.n = D'.n) (e5 : D.down = D'.down) :
    Calls Try.prog 31 #[.pointer (some ⟨p, 0, none⟩), .pointer (some ⟨p', 0, none⟩)] w fun e w' => BoolIs w w' e (EqD D D') := by
  have HA0 : Hid (∀ W, Fr Non w W → W.cell? ⟨p, 0, none⟩ = some (.int .i64 D.n)) := fun W hW => (h.fr hW (fun _ _ h => h)).cell.1
  have HA1 : Hid (∀ W, Fr Non w W → W.cell? ⟨p, 1, none⟩ = some (.map (some m))) := fun W hW => (h.fr hW (fun _ _ h => h)).cell.2.1
  have HA2 : Hid (∀ W, Fr Non w W → W.cell? ⟨p, 2, none⟩ = some (.slice a D.pend.length cap)) := fun W hW => (h.fr hW (fun _ _ h => h)).cell.2.2.1
  have HA4 : Hid (∀ W, Fr Non w W → W.cell? ⟨p, 4, none⟩ = some (.bool D.limited)) := fun W hW => (h.fr hW (fun _ _ h => h)).cell.2.2.2.2.1
  have HA5 : Hid (∀ W, Fr Non w W → W.cell? ⟨p, 5, none⟩ = some (.int .i64 D.limit)) := fun W hW => (h.fr hW (fun _ _ h => h)).cell.2.2.2.2.2.1
  have HA6 : Hid (∀ W, Fr Non w W → W.cell? ⟨p, 6, none⟩ = some (.bool D.down)) := fun W hW => (h.fr hW (fun _ _ h => h)).cell.2.2.2.2.2.2
  have HB0 : Hid (∀ W, Fr Non w W → W.cell? ⟨p', 0, none⟩ = some (.int .i64 D'.n)) := fun W hW => (h'.fr hW (fun _ _ h => h)).cell.1
  have HB1 : Hid (∀ W, Fr Non w W → W.cell? ⟨p', 1, none⟩ = some (.map (some m'))) := fun W hW => (h'.fr hW (fun _ _ h => h)).cell.2.1
  have HB2 : Hid (∀ W, Fr Non w W → W.cell? ⟨p', 2, none⟩ = some (.slice a' D'.pend.length cap')) := fun W hW => (h'.fr hW (fun _ _ h => h)).cell.2.2.1
  have HB4 : Hid (∀ W, Fr Non w W → W.cell? ⟨p', 4, none⟩ = some (.bool D'.limited)) := fun W hW => (h'.fr hW (fun _ _ h => h)).cell.2.2.2.2.1
  have HB5 : Hid (∀ W, Fr Non w W → W.cell? ⟨p', 5, none⟩ = some (.int .i64 D'.limit)) := fun W hW => (h'.fr hW (fun _ _ h => h)).cell.2.2.2.2.2.1
  have HB6 : Hid (∀ W, Fr Non w W → W.cell? ⟨p', 6, none⟩ = some (.bool D'.down)) := fun W hW => (h'.fr hW (fun _ _ h => h)).cell.2.2.2.2.2.2
  have HME : Hid (∀ W, Fr Non w W → Calls Try.prog 51 #[.map (some m), .map (some m')] W fun e w' => BoolIs W w' e (∀ k, D.dur k = D'.dur k)) := fun W hW => by
    obtain ⟨l1, q1, g1⟩ := (h.fr hW (fun _ _ h => h)).hm
    obtain ⟨l2, q2, g2⟩ := (h'.fr hW (fun _ _ h => h)).hm
    refine (mapsEqual_c W m m' l1 l2 q1 q2).mono ?_
    rintro e w' ⟨b, he, hb, hF⟩
    exact ⟨b, he, hb.trans ⟨fun h k => by rw [g1, g2]; exact h k, fun h k => by rw [← g1, ← g2]; exact h k⟩, hF⟩
  have HSE : Hid (∀ W, Fr Non w W → Calls Try.prog 52 #[.slice a D.pend.length cap, .slice a' D'.pend.length cap'] W fun e w' => e = .returned (.bool (decide (D.pend = D'.pend))) ∧ Fr Non W w') := fun W hW =>
    Equal52 W a cap D.pend a' cap' D'.pend (by omega) (AtL.own elem82 (h.fr hW (fun _ _ h => h)).hv) (AtL.own elem82 (h'.fr hW (fun _ _ h => h)).hv)
  have HDUR : Hid (D.dur = D'.dur ↔ ∀ k, D.dur k = D'.dur k) := ⟨fun h k => by rw [h], fun h => funext h⟩
  have HEQ : Hid (D.limited = D'.limited ∧ (D.limited = true → D.limit = D'.limit) ∧ D.n = D'.n ∧ D.down = D'.down) := ⟨(by rw [e1, e2]), (fun h => by rw [e1] at h; cases h), e4, e5⟩
  rw [e1] at HA4
  rw [e2] at HB4
  rw [← e4] at HB0
  rw [← e5] at HB6
  clear e1 e2 e4 e5
  clear h h' hl
  go_enter Try.func31, Try.ntmps31
  go_wp2_with fail
  refine rc (fun W : World => Fr Non w W) 25 (by kernel_rfl) ?_
  have hS : (fun W : World => Fr Non w W) w.drew := (Fr.refl _ w).drew
  refine tp (i := 0) (v := .pointer (some ⟨p, 0, none⟩)) rfl (by kernel_rfl) (fun _ _ _ h => h) rfl (fun W0 => by unfold RunV; go_simp) (.inr hS) ?_
  simp only [Act.put, List.setIfInBounds_toArray, List.set_cons_zero, List.set_cons_succ]
  refine tp (i := 1) (v := .pointer (some ⟨p, 0, none⟩)) rfl (by kernel_rfl) (fun _ _ _ h => h) rfl (fun W0 => by unfold RunV; go_simp) (.inr hS) ?_
  simp only [Act.put, List.setIfInBounds_toArray, List.set_cons_zero, List.set_cons_succ]
  refine tp (i := 2) (v := .pointer (some ⟨p, 4, none⟩)) rfl (by kernel_rfl) (fun _ _ _ h => h) rfl (fun W0 => by unfold RunV; go_simp) (.inr hS) ?_
  simp only [Act.put, List.setIfInBounds_toArray, List.set_cons_zero, List.set_cons_succ]
  refine tp (i := 4) (v := .pointer (some ⟨p', 0, none⟩)) rfl (by kernel_rfl) (fun _ _ _ h => h) rfl (fun W0 => by unfold RunV; go_simp) (.inr hS) ?_
  simp only [Act.put, List.setIfInBounds_toArray, List.set_cons_zero, List.set_cons_succ]
  refine tp (i := 5) (v := .pointer (some ⟨p', 0, none⟩)) rfl (by kernel_rfl) (fun _ _ _ h => h) rfl (fun W0 => by unfold RunV; go_simp) (.inr hS) ?_
  simp only [Act.put, List.setIfInBounds_toArray, List.set_cons_zero, List.set_cons_succ]
  refine tp (i := 6) (v := .pointer (some ⟨p', 4, none⟩)) rfl (by kernel_rfl) (fun _ _ _ h => h) rfl (fun W0 => by unfold RunV; go_simp) (.inr hS) ?_
  simp only [Act.put, List.setIfInBounds_toArray, List.set_cons_zero, List.set_cons_succ]
  refine tc (i := 3) (v := .bool false) rfl 8 (by kernel_rfl) (fun _ _ _ h => h) rfl (fun W0 hw => r_load1 rfl rfl (HA4.out W0 hw) (Try.isAgg4 _)) hS ?_
  simp only [Act.put, List.setIfInBounds_toArray, List.set_cons_zero, List.set_cons_succ]
  refine tc (i := 7) (v := .bool false) rfl 8 (by kernel_rfl) (fun _ _ _ h => h) rfl (fun W0 hw => r_load1 rfl rfl (HB4.out W0 hw) (Try.isAgg4 _)) hS ?_
  simp only [Act.put, List.setIfInBounds_toArray, List.set_cons_zero, List.set_cons_succ]
  refine tp (i := 8) (v := .bool false) rfl (by kernel_rfl) (fun _ _ _ h => h) rfl (fun W0 => by unfold RunV; go_simp) (.inr hS) ?_
  simp only [Act.put, List.setIfInBounds_toArray, List.set_cons_zero, List.set_cons_succ]
  refine tp (i := 9) (v := .bool false) rfl (by kernel_rfl) (fun _ _ _ h => h) rfl (fun W0 => by unfold RunV; go_simp) (.inr hS) ?_
  simp only [Act.put, List.setIfInBounds_toArray, List.set_cons_zero, List.set_cons_succ]
  refine tpg (i := 10) (v := .pointer (some ⟨p, 0, none⟩)) rfl (by kernel_rfl) (fun _ _ _ h => h) rfl (fun W0 => r_move rfl rfl) (.inr hS) ?_
  simp only [Act.put, List.setIfInBounds_toArray, List.set_cons_zero, List.set_cons_succ]
  refine tpg (i := 11) (v := .pointer (some ⟨p, 0, none⟩)) rfl (by kernel_rfl) (fun _ _ _ h => h) rfl (fun W0 => by unfold RunV; go_simp) (.inr hS) ?_
  simp only [Act.put, List.setIfInBounds_toArray, List.set_cons_zero, List.set_cons_succ]
  refine tpg (i := 12) (v := .pointer (some ⟨p, 4, none⟩)) rfl (by kernel_rfl) (fun _ _ _ h => h) rfl (fun W0 => by unfold RunV; go_simp) (.inr hS) ?_
  simp only [Act.put, List.setIfInBounds_toArray, List.set_cons_zero, List.set_cons_succ]
  refine tcg (i := 13) (v := .bool false) rfl 8 (by kernel_rfl) (fun _ _ _ h => h) rfl (fun W0 hw => r_load1 rfl rfl (HA4.out W0 hw) (Try.isAgg4 _)) hS ?_
  simp only [Act.put, List.setIfInBounds_toArray, List.set_cons_zero, List.set_cons_succ]
  refine tpg (i := 14) (v := .bool false) rfl (by kernel_rfl) (fun _ _ _ h => h) rfl (fun W0 => r_move rfl rfl) (.inr hS) ?_
  simp only [Act.put, List.setIfInBounds_toArray, List.set_cons_zero, List.set_cons_succ]
  refine tpn (i := 15) rfl (by kernel_rfl) (fun _ _ _ h => h) rfl (.inr hS) ?_
  simp only [Act.put, List.setIfInBounds_toArray, List.set_cons_zero, List.set_cons_succ]
  refine tpn (i := 16) rfl (by kernel_rfl) (fun _ _ _ h => h) rfl (.inr hS) ?_
  simp only [Act.put, List.setIfInBounds_toArray, List.set_cons_zero, List.set_cons_succ]
  refine tpn (i := 17) rfl (by kernel_rfl) (fun _ _ _ h => h) rfl (.inr hS) ?_
  simp only [Act.put, List.setIfInBounds_toArray, List.set_cons_zero, List.set_cons_succ]
  refine tpn (i := 19) rfl (by kernel_rfl) (fun _ _ _ h => h) rfl (.inr hS) ?_
  simp only [Act.put, List.setIfInBounds_toArray, List.set_cons_zero, List.set_cons_succ]
  refine tpn (i := 20) rfl (by kernel_rfl) (fun _ _ _ h => h) rfl (.inr hS) ?_
  simp only [Act.put, List.setIfInBounds_toArray, List.set_cons_zero, List.set_cons_succ]
  refine tpn (i := 21) rfl (by kernel_rfl) (fun _ _ _ h => h) rfl (.inr hS) ?_
  simp only [Act.put, List.setIfInBounds_toArray, List.set_cons_zero, List.set_cons_succ]
  refine tpn (i := 18) rfl (by kernel_rfl) (fun _ _ _ h => h) rfl (.inr hS) ?_
  simp only [Act.put, List.setIfInBounds_toArray, List.set_cons_zero, List.set_cons_succ]
  refine tpn (i := 22) rfl (by kernel_rfl) (fun _ _ _ h => h) rfl (.inr hS) ?_
  simp only [Act.put, List.setIfInBounds_toArray, List.set_cons_zero, List.set_cons_succ]
  refine tpn (i := 23) rfl (by kernel_rfl) (fun _ _ _ h => h) rfl (.inr hS) ?_
  simp only [Act.put, List.setIfInBounds_toArray, List.set_cons_zero, List.set_cons_succ]
  refine tpg (i := 24) (v := .bool false) rfl (by kernel_rfl) (fun _ _ _ h => h) rfl (fun W0 => r_pick (b := false) rfl rfl rfl) (.inr hS) ?_
  simp only [Act.put, List.setIfInBounds_toArray, List.set_cons_zero, List.set_cons_succ]
  refine oc2 (i := 25) (v := .bool false) rfl (by kernel_rfl) rfl (by kernel_rfl) (r_pick (b := false) rfl rfl rfl) ?_
  simp only [Act.put, List.setIfInBounds_toArray, List.set_cons_zero, List.set_cons_succ]
  refine dc (by kernel_rfl) ?_
  clear hS
  have HF1D : Hid (Fr Non w w.drew.drew) := ((Fr.refl _ w).drew).drew
  generalize w.drew = w1 at *
  go_wp2_with fail
  refine rc (fun W : World => Fr Non w W) 42 (by kernel_rfl) ?_
  have hS : (fun W : World => Fr Non w W) w1.drew := HF1D.out
  refine tp (i := 0) (v := .pointer (some ⟨p, 0, none⟩)) rfl (by kernel_rfl) (fun _ _ _ h => h) rfl (fun W0 => by unfold RunV; go_simp) (.inr hS) ?_
  simp only [Act.put, List.setIfInBounds_toArray, List.set_cons_zero, List.set_cons_succ]
  refine tp (i := 1) (v := .pointer (some ⟨p, 0, none⟩)) rfl (by kernel_rfl) (fun _ _ _ h => h) rfl (fun W0 => by unfold RunV; go_simp) (.inr hS) ?_
  simp only [Act.put, List.setIfInBounds_toArray, List.set_cons_zero, List.set_cons_succ]
  refine tp (i := 2) (v := .pointer (some ⟨p, 0, none⟩)) rfl (by kernel_rfl) (fun _ _ _ h => h) rfl (fun W0 => by unfold RunV; go_simp) (.inr hS) ?_
  simp only [Act.put, List.setIfInBounds_toArray, List.set_cons_zero, List.set_cons_succ]
  refine tp (i := 4) (v := .pointer (some ⟨p', 0, none⟩)) rfl (by kernel_rfl) (fun _ _ _ h => h) rfl (fun W0 => by unfold RunV; go_simp) (.inr hS) ?_
  simp only [Act.put, List.setIfInBounds_toArray, List.set_cons_zero, List.set_cons_succ]
  refine tp (i := 5) (v := .pointer (some ⟨p', 0, none⟩)) rfl (by kernel_rfl) (fun _ _ _ h => h) rfl (fun W0 => by unfold RunV; go_simp) (.inr hS) ?_
  simp only [Act.put, List.setIfInBounds_toArray, List.set_cons_zero, List.set_cons_succ]
  refine tp (i := 6) (v := .pointer (some ⟨p', 0, none⟩)) rfl (by kernel_rfl) (fun _ _ _ h => h) rfl (fun W0 => by unfold RunV; go_simp) (.inr hS) ?_
  simp only [Act.put, List.setIfInBounds_toArray, List.set_cons_zero, List.set_cons_succ]
  refine tc (i := 3) (v := .int .i64 D.n) rfl 8 (by kernel_rfl) (fun _ _ _ h => h) rfl (fun W0 hw => r_load1 rfl rfl (HA0.out W0 hw) (Try.isAgg3 _)) hS ?_
  simp only [Act.put, List.setIfInBounds_toArray, List.set_cons_zero, List.set_cons_succ]
  refine tc (i := 7) (v := .int .i64 D.n) rfl 8 (by kernel_rfl) (fun _ _ _ h => h) rfl (fun W0 hw => r_load1 rfl rfl (HB0.out W0 hw) (Try.isAgg3 _)) hS ?_
  simp only [Act.put, List.setIfInBounds_toArray, List.set_cons_zero, List.set_cons_succ]
  refine tp (i := 8) (v := .bool true) rfl (by kernel_rfl) (fun _ _ _ h => h) rfl (fun W0 => by unfold RunV; go_simp) (.inr hS) ?_
  simp only [Act.put, List.setIfInBounds_toArray, List.set_cons_zero, List.set_cons_succ]
  refine tp (i := 9) (v := .bool true) rfl (by kernel_rfl) (fun _ _ _ h => h) rfl (fun W0 => by unfold RunV; go_simp) (.inr hS) ?_
  simp only [Act.put, List.setIfInBounds_toArray, List.set_cons_zero, List.set_cons_succ]
  refine tpg (i := 10) (v := .pointer (some ⟨p, 0, none⟩)) rfl (by kernel_rfl) (fun _ _ _ h => h) rfl (fun W0 => r_move rfl rfl) (.inr hS) ?_
  simp only [Act.put, List.setIfInBounds_toArray, List.set_cons_zero, List.set_cons_succ]
  refine tpg (i := 11) (v := .pointer (some ⟨p, 0, none⟩)) rfl (by kernel_rfl) (fun _ _ _ h => h) rfl (fun W0 => by unfold RunV; go_simp) (.inr hS) ?_
  simp only [Act.put, List.setIfInBounds_toArray, List.set_cons_zero, List.set_cons_succ]
  refine tpg (i := 12) (v := .pointer (some ⟨p, 6, none⟩)) rfl (by kernel_rfl) (fun _ _ _ h => h) rfl (fun W0 => by unfold RunV; go_simp) (.inr hS) ?_
  simp only [Act.put, List.setIfInBounds_toArray, List.set_cons_zero, List.set_cons_succ]
  refine tpg (i := 14) (v := .pointer (some ⟨p', 0, none⟩)) rfl (by kernel_rfl) (fun _ _ _ h => h) rfl (fun W0 => r_move rfl rfl) (.inr hS) ?_
  simp only [Act.put, List.setIfInBounds_toArray, List.set_cons_zero, List.set_cons_succ]
  refine tpg (i := 15) (v := .pointer (some ⟨p', 0, none⟩)) rfl (by kernel_rfl) (fun _ _ _ h => h) rfl (fun W0 => by unfold RunV; go_simp) (.inr hS) ?_
  simp only [Act.put, List.setIfInBounds_toArray, List.set_cons_zero, List.set_cons_succ]
  refine tpg (i := 16) (v := .pointer (some ⟨p', 6, none⟩)) rfl (by kernel_rfl) (fun _ _ _ h => h) rfl (fun W0 => by unfold RunV; go_simp) (.inr hS) ?_
  simp only [Act.put, List.setIfInBounds_toArray, List.set_cons_zero, List.set_cons_succ]
  refine tcg (i := 13) (v := .bool D.down) rfl 8 (by kernel_rfl) (fun _ _ _ h => h) rfl (fun W0 hw => r_load1 rfl rfl (HA6.out W0 hw) (Try.isAgg4 _)) hS ?_
  simp only [Act.put, List.setIfInBounds_toArray, List.set_cons_zero, List.set_cons_succ]
  refine tcg (i := 17) (v := .bool D.down) rfl 8 (by kernel_rfl) (fun _ _ _ h => h) rfl (fun W0 hw => r_load1 rfl rfl (HB6.out W0 hw) (Try.isAgg4 _)) hS ?_
  simp only [Act.put, List.setIfInBounds_toArray, List.set_cons_zero, List.set_cons_succ]
  refine tpg (i := 18) (v := .bool true) rfl (by kernel_rfl) (fun _ _ _ h => h) rfl (fun W0 => run_eqlB rfl Try.underlying4 rfl rfl (by simp)) (.inr hS) ?_
  simp only [Act.put, List.setIfInBounds_toArray, List.set_cons_zero, List.set_cons_succ]
  refine tp (i := 19) (v := .bool true) rfl (by kernel_rfl) (fun _ _ _ h => h) rfl (fun W0 => r_pick (b := true) rfl rfl rfl) (.inr hS) ?_
  simp only [Act.put, List.setIfInBounds_toArray, List.set_cons_zero, List.set_cons_succ]
  refine tp (i := 20) (v := .bool true) rfl (by kernel_rfl) (fun _ _ _ h => h) rfl (fun W0 => by unfold RunV; go_simp) (.inr hS) ?_
  simp only [Act.put, List.setIfInBounds_toArray, List.set_cons_zero, List.set_cons_succ]
  refine tpg (i := 21) (v := .pointer (some ⟨p, 0, none⟩)) rfl (by kernel_rfl) (fun _ _ _ h => h) rfl (fun W0 => r_move rfl rfl) (.inr hS) ?_
  simp only [Act.put, List.setIfInBounds_toArray, List.set_cons_zero, List.set_cons_succ]
  refine tpg (i := 22) (v := .pointer (some ⟨p, 0, none⟩)) rfl (by kernel_rfl) (fun _ _ _ h => h) rfl (fun W0 => by unfold RunV; go_simp) (.inr hS) ?_
  simp only [Act.put, List.setIfInBounds_toArray, List.set_cons_zero, List.set_cons_succ]
  refine tpg (i := 23) (v := .pointer (some ⟨p, 1, none⟩)) rfl (by kernel_rfl) (fun _ _ _ h => h) rfl (fun W0 => by unfold RunV; go_simp) (.inr hS) ?_
  simp only [Act.put, List.setIfInBounds_toArray, List.set_cons_zero, List.set_cons_succ]
  refine tpg (i := 25) (v := .pointer (some ⟨p', 0, none⟩)) rfl (by kernel_rfl) (fun _ _ _ h => h) rfl (fun W0 => r_move rfl rfl) (.inr hS) ?_
  simp only [Act.put, List.setIfInBounds_toArray, List.set_cons_zero, List.set_cons_succ]
  refine tpg (i := 26) (v := .pointer (some ⟨p', 0, none⟩)) rfl (by kernel_rfl) (fun _ _ _ h => h) rfl (fun W0 => by unfold RunV; go_simp) (.inr hS) ?_
  simp only [Act.put, List.setIfInBounds_toArray, List.set_cons_zero, List.set_cons_succ]
  refine tpg (i := 27) (v := .pointer (some ⟨p', 1, none⟩)) rfl (by kernel_rfl) (fun _ _ _ h => h) rfl (fun W0 => by unfold RunV; go_simp) (.inr hS) ?_
  simp only [Act.put, List.setIfInBounds_toArray, List.set_cons_zero, List.set_cons_succ]
  refine tcg (i := 24) (v := .map (some m)) rfl 8 (by kernel_rfl) (fun _ _ _ h => h) rfl (fun W0 hw => r_load1 rfl rfl (HA1.out W0 hw) (Try.isAgg75 _)) hS ?_
  simp only [Act.put, List.setIfInBounds_toArray, List.set_cons_zero, List.set_cons_succ]
  refine tcg (i := 28) (v := .map (some m')) rfl 8 (by kernel_rfl) (fun _ _ _ h => h) rfl (fun W0 hw => r_load1 rfl rfl (HB1.out W0 hw) (Try.isAgg75 _)) hS ?_
  simp only [Act.put, List.setIfInBounds_toArray, List.set_cons_zero, List.set_cons_succ]
  refine og1 (i := 29) rfl (by kernel_rfl) rfl ?_
  unfold Oper.wp
  go_simp
  refine (HME.out _ HF1D.out).mono ?_
  rintro e w5 ⟨b1, rfl, hb1, hF5⟩
  have HB1E := Lib.hid hb1
  have HF5 : Hid (Fr Non w w5) := HF1D.out.trans hF5 (fun _ _ h => h)
  clear hb1 hF5 hS
  refine ⟨HF5.out, ?_⟩
  have hS : (fun W : World => Fr Non w W) w5 := HF5.out
  cases b1 with
  | false =>
    have HDE : Hid (¬ ∀ k, D.dur k = D'.dur k) := fun h => absurd (HB1E.out.2 h) (by simp)
    clear HB1E
    refine tp (i := 30) (v := .bool false) rfl (by kernel_rfl) (fun _ _ _ h => h) rfl (fun W0 => r_pick (b := true) rfl rfl rfl) (.inr hS) ?_
    simp only [Act.put, List.setIfInBounds_toArray, List.set_cons_zero, List.set_cons_succ]
    refine tp (i := 31) (v := .bool false) rfl (by kernel_rfl) (fun _ _ _ h => h) rfl (fun W0 => by unfold RunV; go_simp) (.inr hS) ?_
    simp only [Act.put, List.setIfInBounds_toArray, List.set_cons_zero, List.set_cons_succ]
    refine tpn (i := 32) rfl (by kernel_rfl) (fun _ _ _ h => h) rfl (.inr hS) ?_
    simp only [Act.put, List.setIfInBounds_toArray, List.set_cons_zero, List.set_cons_succ]
    refine tpn (i := 33) rfl (by kernel_rfl) (fun _ _ _ h => h) rfl (.inr hS) ?_
    simp only [Act.put, List.setIfInBounds_toArray, List.set_cons_zero, List.set_cons_succ]
    refine tpn (i := 34) rfl (by kernel_rfl) (fun _ _ _ h => h) rfl (.inr hS) ?_
    simp only [Act.put, List.setIfInBounds_toArray, List.set_cons_zero, List.set_cons_succ]
    refine tpn (i := 36) rfl (by kernel_rfl) (fun _ _ _ h => h) rfl (.inr hS) ?_
    simp only [Act.put, List.setIfInBounds_toArray, List.set_cons_zero, List.set_cons_succ]
    refine tpn (i := 37) rfl (by kernel_rfl) (fun _ _ _ h => h) rfl (.inr hS) ?_
    simp only [Act.put, List.setIfInBounds_toArray, List.set_cons_zero, List.set_cons_succ]
    refine tpn (i := 38) rfl (by kernel_rfl) (fun _ _ _ h => h) rfl (.inr hS) ?_
    simp only [Act.put, List.setIfInBounds_toArray, List.set_cons_zero, List.set_cons_succ]
    refine tpn (i := 35) rfl (by kernel_rfl) (fun _ _ _ h => h) rfl (.inr hS) ?_
    simp only [Act.put, List.setIfInBounds_toArray, List.set_cons_zero, List.set_cons_succ]
    refine tpn (i := 39) rfl (by kernel_rfl) (fun _ _ _ h => h) rfl (.inr hS) ?_
    simp only [Act.put, List.setIfInBounds_toArray, List.set_cons_zero, List.set_cons_succ]
    refine tpn (i := 40) rfl (by kernel_rfl) (fun _ _ _ h => h) rfl (.inr hS) ?_
    simp only [Act.put, List.setIfInBounds_toArray, List.set_cons_zero, List.set_cons_succ]
    refine tp (i := 41) (v := .bool false) rfl (by kernel_rfl) (fun _ _ _ h => h) rfl (fun W0 => r_pick (b := false) rfl rfl rfl) (.inr hS) ?_
    simp only [Act.put, List.setIfInBounds_toArray, List.set_cons_zero, List.set_cons_succ]
    refine oc2 (i := 42) (v := .bool false) rfl (by kernel_rfl) rfl (by kernel_rfl) (r_assign rfl rfl) ?_
    simp only [Act.put, List.setIfInBounds_toArray, List.set_cons_zero, List.set_cons_succ]
    refine dc (by kernel_rfl) ?_
    clear hS
    go_wp2_with fail
    go_ret
    exact ⟨false, rfl, ⟨fun h => (by cases h), fun h => absurd (HDUR.out.1 h.2.2.2.2.1) HDE.out⟩, HF5.out⟩
  | true =>
    have HDE : Hid (∀ k, D.dur k = D'.dur k) := HB1E.out.1 rfl
    clear HB1E
    refine tp (i := 30) (v := .bool true) rfl (by kernel_rfl) (fun _ _ _ h => h) rfl (fun W0 => r_pick (b := true) rfl rfl rfl) (.inr hS) ?_
    simp only [Act.put, List.setIfInBounds_toArray, List.set_cons_zero, List.set_cons_succ]
    refine tp (i := 31) (v := .bool true) rfl (by kernel_rfl) (fun _ _ _ h => h) rfl (fun W0 => by unfold RunV; go_simp) (.inr hS) ?_
    simp only [Act.put, List.setIfInBounds_toArray, List.set_cons_zero, List.set_cons_succ]
    refine tpg (i := 32) (v := .pointer (some ⟨p, 0, none⟩)) rfl (by kernel_rfl) (fun _ _ _ h => h) rfl (fun W0 => r_move rfl rfl) (.inr hS) ?_
    simp only [Act.put, List.setIfInBounds_toArray, List.set_cons_zero, List.set_cons_succ]
    refine tpg (i := 33) (v := .pointer (some ⟨p, 0, none⟩)) rfl (by kernel_rfl) (fun _ _ _ h => h) rfl (fun W0 => by unfold RunV; go_simp) (.inr hS) ?_
    simp only [Act.put, List.setIfInBounds_toArray, List.set_cons_zero, List.set_cons_succ]
    refine tpg (i := 34) (v := .pointer (some ⟨p, 2, none⟩)) rfl (by kernel_rfl) (fun _ _ _ h => h) rfl (fun W0 => by unfold RunV; go_simp) (.inr hS) ?_
    simp only [Act.put, List.setIfInBounds_toArray, List.set_cons_zero, List.set_cons_succ]
    refine tpg (i := 36) (v := .pointer (some ⟨p', 0, none⟩)) rfl (by kernel_rfl) (fun _ _ _ h => h) rfl (fun W0 => r_move rfl rfl) (.inr hS) ?_
    simp only [Act.put, List.setIfInBounds_toArray, List.set_cons_zero, List.set_cons_succ]
    refine tpg (i := 37) (v := .pointer (some ⟨p', 0, none⟩)) rfl (by kernel_rfl) (fun _ _ _ h => h) rfl (fun W0 => by unfold RunV; go_simp) (.inr hS) ?_
    simp only [Act.put, List.setIfInBounds_toArray, List.set_cons_zero, List.set_cons_succ]
    refine tpg (i := 38) (v := .pointer (some ⟨p', 2, none⟩)) rfl (by kernel_rfl) (fun _ _ _ h => h) rfl (fun W0 => by unfold RunV; go_simp) (.inr hS) ?_
    simp only [Act.put, List.setIfInBounds_toArray, List.set_cons_zero, List.set_cons_succ]
    refine tcg (i := 35) (v := .slice a D.pend.length cap) rfl 8 (by kernel_rfl) (fun _ _ _ h => h) rfl (fun W0 hw => r_load1 rfl rfl (HA2.out W0 hw) (Try.isAgg76 _)) hS ?_
    simp only [Act.put, List.setIfInBounds_toArray, List.set_cons_zero, List.set_cons_succ]
    refine tcg (i := 39) (v := .slice a' D'.pend.length cap') rfl 8 (by kernel_rfl) (fun _ _ _ h => h) rfl (fun W0 hw => r_load1 rfl rfl (HB2.out W0 hw) (Try.isAgg76 _)) hS ?_
    simp only [Act.put, List.setIfInBounds_toArray, List.set_cons_zero, List.set_cons_succ]
    refine og1 (i := 40) rfl (by kernel_rfl) rfl ?_
    unfold Oper.wp
    go_simp
    refine (HSE.out _ HF5.out).mono ?_
    rintro e w6 ⟨rfl, hF6⟩
    have HF6 : Hid (Fr Non w w6) := HF5.out.trans hF6 (fun _ _ h => h)
    clear hF6 hS
    refine ⟨HF6.out, ?_⟩
    have hS : (fun W : World => Fr Non w W) w6 := HF6.out
    refine tp (i := 41) (v := .bool (decide (D.pend = D'.pend))) rfl (by kernel_rfl) (fun _ _ _ h => h) rfl (fun W0 => r_pick (b := true) rfl rfl rfl) (.inr hS) ?_
    simp only [Act.put, List.setIfInBounds_toArray, List.set_cons_zero, List.set_cons_succ]
    refine oc2 (i := 42) (v := .bool (decide (D.pend = D'.pend))) rfl (by kernel_rfl) rfl (by kernel_rfl) (r_assign rfl rfl) ?_
    simp only [Act.put, List.setIfInBounds_toArray, List.set_cons_zero, List.set_cons_succ]
    refine dc (by kernel_rfl) ?_
    clear hS
    go_wp2_with fail
    go_ret
    exact ⟨_, rfl, ⟨fun h => ⟨HEQ.out.1, HEQ.out.2.1, HEQ.out.2.2.1, HEQ.out.2.2.2, HDUR.out.2 HDE.out, of_decide_eq_true h⟩, fun h => decide_eq_true h.2.2.2.2.2⟩, HF6.out⟩
end Go.Proofs.Yticgkbpmaakkiaa
