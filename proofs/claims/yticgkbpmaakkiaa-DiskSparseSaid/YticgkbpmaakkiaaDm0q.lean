/-
  maps.Equal over maps of sectors.
-/
import Derived.Test.YticgkbpmaakkiaaDl8toDl9q
import Derived.Test.YticgkbpmaakkiaaMitq
import Derived.Test.YticgkbpmaakkiaaFotoFpq
import Derived.Deep.LoopGhost
namespace Go.Proofs.Yticgkbpmaakkiaa
open Go.RowKit

abbrev intK : Int → Value := fun n => .int .i64 n
theorem aget_len {V : Type} {l m : List (Int × V)} (h1 : (l.map (·.1)).Nodup) (h2 : (m.map (·.1)).Nodup) (h : ∀ k, aget k l = aget k m) : l.length = m.length := by
  have key : ∀ {a b : List (Int × V)}, (a.map (·.1)).Nodup → (b.map (·.1)).Nodup → (∀ k, aget k a = aget k b) → a.length ≤ b.length := by
    intro a b ha hb hab
    have : ∀ x ∈ a.map (·.1), x ∈ b.map (·.1) := by
      intro x hx
      refine Classical.byContradiction fun hn => ?_
      have h3 := aget_none.2 hn
      rw [← hab] at h3
      exact aget_none.1 h3 hx
    have := nodup_len _ _ ha this
    simpa using this
  have a := key h1 h2 h
  have b := key h2 h1 (fun k => (h k).symm)
  omega

theorem aget_all {V : Type} {l m : List (Int × V)} (h1 : (l.map (·.1)).Nodup) (h2 : (m.map (·.1)).Nodup) (hl : l.length = m.length) (h : ∀ x ∈ l, aget x.1 m = some x.2) (k : Int) : aget k l = aget k m := by
  cases hk : aget k l with
  | some v => exact (h (k, v) ((aget_some h1).1 hk)).symm
  | none =>
    cases hm : aget k m with
    | none => rfl
    | some v =>
      exfalso
      have h3 := aget_none.1 hk
      have h4 : k ∈ m.map (·.1) := List.mem_map_of_mem (f := (·.1)) ((aget_some h2).1 hm)
      have h5 := nodup_len (k :: l.map (·.1)) (m.map (·.1)) (List.nodup_cons.2 ⟨h3, h1⟩) (fun x hx => by
        rcases List.mem_cons.1 hx with rfl | hx
        · exact h4
        · obtain ⟨y, hy, rfl⟩ := List.mem_map.1 hx
          exact List.mem_map_of_mem (f := (·.1)) ((aget_some h2).1 (h y hy)))
      simp at h5
      omega

def BoolIs (w w' : World) (e : Ending) (p : Prop) : Prop := ∃ b, e = .returned (.bool b) ∧ (b = true ↔ p) ∧ Fr Non w w'

set_option maxRecDepth 100000 in
set_option maxHeartbeats 1000000 in
theorem mapsEqual_c (w : World) (m1 m2 : Nat) (l1 l2 : List (Int × Sec)) (h1 : MapAt w m1 intK secV l1) (h2 : MapAt w m2 intK secV l2) :
    Calls Try.prog 51 #[.map (some m1), .map (some m2)] w fun e w' => BoolIs w w' e (∀ k, aget k l1 = aget k l2) := by
  have q1 : (Builtin.len_ #[75] 3 #[.map (some m1)]).run Try.prog w = .ok (.int .i64 l1.length) w := by
    obtain ⟨es, clock, hb, hl, -⟩ := h1.ex
    have : es.size = l1.length := by have := congrArg List.length hl; simpa using this
    rw [← this]; exact run_len_map w 75 3 m1 es clock Try.underlying75 hb
  have q2 : (Builtin.len_ #[75] 3 #[.map (some m2)]).run Try.prog w = .ok (.int .i64 l2.length) w := by
    obtain ⟨es, clock, hb, hl, -⟩ := h2.ex
    have : es.size = l2.length := by have := congrArg List.length hl; simpa using this
    rw [← this]; exact run_len_map w 75 3 m2 es clock Try.underlying75 hb
  by_cases hlen : l1.length = l2.length
  · rw [← hlen] at q2
    obtain ⟨w1, hr, hR, hF1⟩ := ranging_start h1 Try.underlying75
    have HR := Lib.hid hr
    have HRG := Lib.hid hR
    have HF1 := Lib.hid hF1
    have H1 := Lib.hid h1
    have H2 := Lib.hid h2
    have HLEN := Lib.hid hlen
    clear h1 h2 hr hR hF1 hlen
    go_enter Try.func51, Try.ntmps51
    go_wp2_with (first
      | (guard_target =~ wpList _ _ _ (⟨_, Op.range _ _, _, _, _, _⟩ :: _) _ _; refine wl rfl (r_range rfl rfl HR.out) ?_; simp only [Act.put, List.setIfInBounds_toArray, List.set_cons_zero, List.set_cons_succ])
      | fail)
    go_loopg [] l1.length (fun g wr => ∃ done : List (Int × Sec), g + done.length = l1.length ∧ Ranging wr w.heap.size m1 intK secV l1 done ∧ (∀ x ∈ done, aget x.1 l2 = some x.2) ∧ Fr Non w wr)
    case atStart => exact ⟨[], by simp, HRG.out, (fun x hx => by cases hx), HF1.out⟩
    case round =>
      obtain ⟨done, hg, hR, hall, hF⟩ := hrel
      rcases ranging_next (P := Try.prog) hR 0 with ⟨hp, hr⟩ | ⟨x, w2, hx, hr, he, hR2, hF2, hlt⟩
      · have HR2 := Lib.hid hr
        have HP := Lib.hid (And.intro hp (And.intro hall hF))
        have HG := Lib.hid hg
        clear hR hr hp hall hF hg q1 q2
        go_wp2_with (first
          | (guard_target =~ wpList _ _ _ (⟨_, Op.next _ _, _, _, _, _⟩ :: _) _ _; refine wl rfl (r_next (it := .tmp 15) (b := false) rfl rfl rfl HR2.out) ?_; simp only [Act.put, List.setIfInBounds_toArray, List.set_cons_zero, List.set_cons_succ])
          | fail)
        go_ret
        refine ⟨true, rfl, ⟨fun _ k => ?_, fun _ => rfl⟩, HP.out.2.2⟩
        have hsub : ∀ x ∈ l1, aget x.1 l2 = some x.2 := fun x hx => HP.out.2.1 x (HP.out.1.mem_iff.2 hx)
        exact aget_all H1.out.nodup H2.out.nodup HLEN.out hsub k
      · have HR2 := Lib.hid hr
        have HE := Lib.hid he
        have HX := Lib.hid (And.intro hx (And.intro hR2 (And.intro hall (And.intro hlt hg))))
        have HF2 : Hid (Fr Non w w2) := hF.trans hF2 (fun i hi e => by have e' : i = w.heap.size := e; omega)
        clear hR hr hall hF hg q1 q2 he hx hR2 hlt hF2
        have hb3 := heap_alloc_new w2 (.cells (u8s x.2.1).toArray 80)
        have hF3 : Fr Non w2 (w2.alloc (.cells (u8s x.2.1).toArray 80)) := (Fr.refl _ w2).alloc _
        obtain ⟨w3, hw3⟩ : ∃ w3, w2.alloc (.cells (u8s x.2.1).toArray 80) = w3 := ⟨_, rfl⟩
        rw [hw3] at hb3 hF3
        have hlk := run_lookup (H2.out.fr (HF2.out.trans hF3 (fun _ _ h => h)) (fun h => h)) (keyOk_int Try.underlying3) Try.underlying75 (zero80 w3) x.1 true
        rw [if_pos rfl] at hlk
        cases hag : aget x.1 l2 with
        | none =>
          rw [hag] at hlk
          have HLK : Hid ((Instr.lookup 75 (.map (some m2)) (.int .i64 x.1) true).run Try.prog w3 = .ok (.tuple #[.agg (u8s zeroSec.1).toArray, .bool false]) w3) := hlk
          have HAG := Lib.hid hag
          clear hlk hag
          have HF34 : Hid (Fr Non w (w3.alloc (.cells (u8s zeroSec.1).toArray 80))) := (HF2.out.trans hF3 (fun _ _ h => h)).alloc _
          clear hb3 hF3
          go_wp2_with (first
            | (guard_target =~ wpList _ _ _ (⟨_, Op.next _ _, _, _, _, _⟩ :: _) _ _; refine wl rfl (r_next (it := .tmp 15) (b := false) rfl rfl rfl HR2.out) ?_; simp only [Act.put, List.setIfInBounds_toArray, List.set_cons_zero, List.set_cons_succ])
            | (guard_target =~ wpList _ _ _ (⟨_, Op.entry _, _, _, _, _⟩ :: _) _ _; refine wl rfl (r_entry (it := .tmp 15) rfl rfl HE.out) ?_; simp only [Act.put, List.setIfInBounds_toArray, List.set_cons_zero, List.set_cons_succ])
            | (guard_target =~ wpList _ _ _ (⟨_, Op.alloc 80, _, _, _, _⟩ :: _) _ _; refine wl rfl (r_allocA rfl (zero80 _)) ?_; simp only [Act.put, List.setIfInBounds_toArray, List.set_cons_zero, List.set_cons_succ])
            | (guard_target =~ wpList _ _ _ (⟨_, Op.store 80 (Operand.tmp 6) _, _, _, _, _⟩ :: _) _ _; refine wu rfl (r_store_new (c' := (u8s x.2.1).toArray) rfl rfl rfl (by simp [sz80, sec_len]) (by simp [sec_len]) (u8s_all _)) ?_; rw [hw3]; simp only [Act.put, List.setIfInBounds_toArray, List.set_cons_zero, List.set_cons_succ])
            | (guard_target =~ wpList _ _ _ (⟨_, Op.store 80 (Operand.tmp 7) _, _, _, _, _⟩ :: _) _ _; refine wu rfl (r_store_new (c' := (u8s zeroSec.1).toArray) rfl rfl rfl (by simp [sz80, sec_len]) (by simp [sec_len]) (u8s_all _)) ?_; generalize w3.alloc (.cells (u8s zeroSec.1).toArray 80) = w4 at *; simp only [Act.put, List.setIfInBounds_toArray, List.set_cons_zero, List.set_cons_succ])
            | (guard_target =~ wpList _ _ _ (⟨_, Op.lookup _ _ _ _, _, _, _, _⟩ :: _) _ _; refine wl rfl (r_lookup rfl rfl rfl HLK.out) ?_; simp only [Act.put, List.setIfInBounds_toArray, List.set_cons_zero, List.set_cons_succ])
            | fail)
          go_ret
          refine ⟨false, rfl, ⟨fun h => (by cases h), fun h => ?_⟩, HF34.out⟩
          have h1 := h x.1
          rw [HAG.out, (aget_some H1.out.nodup).2 HX.out.1] at h1
          cases h1
        | some s =>
          rw [hag] at hlk
          have HLK : Hid ((Instr.lookup 75 (.map (some m2)) (.int .i64 x.1) true).run Try.prog w3 = .ok (.tuple #[.agg (u8s s.1).toArray, .bool true]) w3) := hlk
          have HAG := Lib.hid hag
          clear hlk hag
          have HF34 : Hid (Fr Non w2 (w3.alloc (.cells (u8s s.1).toArray 80))) := hF3.alloc _
          have HB3 := Lib.hid (rangeAt_of (((Fr.refl Non w3).alloc (.cells (u8s s.1).toArray 80)).keep hb3 (fun h => h)) 0 (u8s x.2.1) (by simp))
          have HB4 := Lib.hid (rangeAt_of (heap_alloc_new w3 (.cells (u8s s.1).toArray 80)) 0 (u8s s.1) (by simp))
          clear hb3 hF3
          go_wp2_with (first
            | (guard_target =~ wpList _ _ _ (⟨_, Op.next _ _, _, _, _, _⟩ :: _) _ _; refine wl rfl (r_next (it := .tmp 15) (b := false) rfl rfl rfl HR2.out) ?_; simp only [Act.put, List.setIfInBounds_toArray, List.set_cons_zero, List.set_cons_succ])
            | (guard_target =~ wpList _ _ _ (⟨_, Op.entry _, _, _, _, _⟩ :: _) _ _; refine wl rfl (r_entry (it := .tmp 15) rfl rfl HE.out) ?_; simp only [Act.put, List.setIfInBounds_toArray, List.set_cons_zero, List.set_cons_succ])
            | (guard_target =~ wpList _ _ _ (⟨_, Op.alloc 80, _, _, _, _⟩ :: _) _ _; refine wl rfl (r_allocA rfl (zero80 _)) ?_; simp only [Act.put, List.setIfInBounds_toArray, List.set_cons_zero, List.set_cons_succ])
            | (guard_target =~ wpList _ _ _ (⟨_, Op.store 80 (Operand.tmp 6) _, _, _, _, _⟩ :: _) _ _; refine wu rfl (r_store_new (c' := (u8s x.2.1).toArray) rfl rfl rfl (by simp [sz80, sec_len]) (by simp [sec_len]) (u8s_all _)) ?_; rw [hw3]; simp only [Act.put, List.setIfInBounds_toArray, List.set_cons_zero, List.set_cons_succ])
            | (guard_target =~ wpList _ _ _ (⟨_, Op.store 80 (Operand.tmp 7) _, _, _, _, _⟩ :: _) _ _; refine wu rfl (r_store_new (c' := (u8s s.1).toArray) rfl rfl rfl (by simp [sz80, sec_len]) (by simp [sec_len]) (u8s_all _)) ?_; generalize w3.alloc (.cells (u8s s.1).toArray 80) = w4 at *; simp only [Act.put, List.setIfInBounds_toArray, List.set_cons_zero, List.set_cons_succ])
            | (guard_target =~ wpList _ _ _ (⟨_, Op.lookup _ _ _ _, _, _, _, _⟩ :: _) _ _; refine wl rfl (r_lookup rfl rfl rfl HLK.out) ?_; simp only [Act.put, List.setIfInBounds_toArray, List.set_cons_zero, List.set_cons_succ])
            | (guard_target =~ wpList _ _ _ (⟨some 30, Op.load 80 _, _, _, _, _⟩ :: _) _ _; refine wlg rfl (r_load (b := w2.heap.size) (i := 0) rfl rfl HB3.out Try.underlying80 rfl (by rw [sz80, sec_len])) ?_; simp only [Act.put, List.setIfInBounds_toArray, List.set_cons_zero, List.set_cons_succ])
            | (guard_target =~ wpList _ _ _ (⟨some 31, Op.load 80 _, _, _, _, _⟩ :: _) _ _; refine wlg rfl (r_load (b := w3.heap.size) (i := 0) rfl rfl HB4.out Try.underlying80 rfl (by rw [sz80, sec_len])) ?_; simp only [Act.put, List.setIfInBounds_toArray, List.set_cons_zero, List.set_cons_succ])
            | (guard_target =~ wpList _ _ _ (⟨_, Op.binOp _ 80 _ _ _, _, _, _, _⟩ :: _) _ _; refine wlg rfl (r_eql (u1 := .agg (u8s x.2.1).toArray) (u2 := .agg (u8s s.1).toArray) rfl rfl rfl (guard80n _ _ _ _ _ _) (neq80 x.2 s _)) ?_; simp only [Act.put, List.setIfInBounds_toArray, List.set_cons_zero, List.set_cons_succ])
            | fail)
          · go_ret
            rename_i hne
            refine ⟨false, rfl, ⟨fun h => (by cases h), fun h => ?_⟩, HF2.out.trans HF34 (fun _ _ h => h)⟩
            have h1 := h x.1
            rw [HAG.out, (aget_some H1.out.nodup).2 HX.out.1] at h1
            simp [Option.some.inj h1] at hne
          · rename_i heq
            have heq' : x.2 = s := by simpa using heq
            go_roundg (gk - 1)
            case measure => have := HX.out; omega
            case rel => exact ⟨done ++ [x], by have := HX.out; simp; omega, HX.out.2.1.fr HF34 (fun h => h) (fun h => h), fun y hy => (List.mem_append.1 hy).elim (HX.out.2.2.1 y) (fun h => by rw [List.mem_singleton.1 h, HAG.out, heq']), HF2.out.trans HF34 (fun _ _ h => h)⟩
  · have hne : ((l1.length : Int) == (l2.length : Int)) = false := by simp; omega
    have HH := Lib.hid (And.intro h1.nodup (And.intro h2.nodup hlen))
    clear h1 h2 hlen
    go_enter Try.func51, Try.ntmps51
    go_wp2
    go_ret
    exact ⟨false, rfl, ⟨fun h => (by cases h), fun h => absurd (aget_len HH.out.1 HH.out.2.1 h) HH.out.2.2⟩, Fr.refl _ _⟩
end Go.Proofs.Yticgkbpmaakkiaa
