/-
  
-/
import Derived.Test.YticgkbpmaakkiaaDkAtoDkCq
import Derived.Laws.Cover3

namespace Go.Proofs.Yticgkbpmaakkiaa
open Go.RowKit

theorem eql_nil {P : Program} {t e : TypeId} (h : P.underlying t = some (.slice e)) (w : World) (a : Option Addr) (l c : Nat) : (binOp .eql t (.slice a l c) (.slice none 0 0)).run P w = .ok (.bool a.isNone) w := by
  simp only [binOp]
  simp [run_equal_slice_nil w t e a l c h]

set_option maxRecDepth 100000 in
theorem Clone36 (w : World) (sv : Value) (l : List UInt8) (h : BytesAt w sv l) (h0 : l ≠ []) (hl : l.length ≤ 100000) :
    Calls Try.prog 36 #[sv] w fun e w' => ∃ b cap, e = .returned (.slice (some ⟨b, 0, none⟩) l.length cap) ∧ OwnB w' (.slice (some ⟨b, 0, none⟩) l.length cap) l ∧ Fr Non w w' ∧ w.heap.size ≤ b ∧ b < w'.heap.size := by
  obtain ⟨b, cap, w', hrun, ho, hF, hle, hlt⟩ := run_dup w sv l h h0 hl
  obtain ⟨a, c, rfl, hh | ⟨g, o, rfl, hr⟩⟩ := h
  · exact absurd hh h0
  have HFIN := Lib.hid (And.intro ho (And.intro hF (And.intro hle hlt)))
  have HRUN := Lib.hid hrun
  have heq := eql_nil Try.underlying30 w (some ⟨g, o, none⟩) l.length c
  clear ho hF hle hlt hr h0 hl hrun
  go_enter Try.func36, Try.ntmps36
  go_wp2_with (first
    | (guard_target =~ wpList _ _ _ (⟨_, Op.buildSlice 30 0 _, _, _, _, _⟩ :: _) _ _; refine wl rfl (r_buildSlice (vs := []) rfl rfl (run_empty30 w)) ?_)
    | (guard_target =~ wpList _ _ _ (⟨_, Op.call { callee := .builtin .append, args := _, argTypes := _ }, _, _, _, _⟩ :: _) _ _; refine wl rfl (r_builtin (vs := [.slice (some ⟨w.heap.size, 0, none⟩) 0 0, .slice (some ⟨g, o, none⟩) l.length c]) rfl rfl (builtin_append HRUN.out)) ?_)
    | fail)
  go_ret
  exact ⟨b, cap, rfl, HFIN.out⟩

/-! ### structs of a number and a slice of bytes -/
abbrev Raw := Option Addr × Nat × Nat
def rawV (s : Raw) : Value := .slice s.1 s.2.1 s.2.2
def encS (s : Raw) : List Value := [rawV s]
def encW (x : Int × Raw) : List Value := [.int .i64 x.1, rawV x.2]
theorem encW_one (x : Int × Raw) : ∀ v ∈ encW x, v.oneCell' = true := by
  intro v hv
  rcases List.mem_cons.1 hv with rfl | hv
  · rfl
  · rw [List.mem_singleton.1 hv]; rfl
theorem info50 : (Try.prog.info? 50).map (fun i => (i.zero, i.size, i.bytes)) = some (some (.agg #[.int .i64 0, .slice none 0 0]), 2, 32) := by kernel_rfl
theorem elem50 : ElemOk Try.prog 50 2 32 encW := ⟨⟨_, info50, rfl⟩, by omega, fun _ => rfl, encW_one⟩
theorem zero50 (w : World) : (zeroValue 50).run Try.prog w = .ok (.agg #[.int .i64 0, .slice none 0 0]) w := by
  obtain ⟨i, hi, hz, _⟩ := info_parts info50
  simp [zeroValue, typeInfo, hi, hz]
theorem places50 : placesOf Try.prog 50 = some #[(0, 1), (1, 1)] := by kernel_rfl
theorem build50 (w : World) (n : Int) (s : Raw) : (Instr.build 50 #[(0, .int .i64 n), (1, rawV s)]).run Try.prog w = .ok (.agg (encW (n, s)).toArray) w :=
  run_build_all (P := Try.prog) (w := w) (t := 50) (vs := [.int .i64 n, rawV s]) (zero50 w) places50 (by
    intro j v hj
    match j, hj with
    | 0, hj => cases hj; rfl
    | 1, hj => cases hj; rfl
    | j + 2, hj => simp at hj) rfl
theorem sz50 : (Try.prog.info? 50).map (·.size) = some 2 := by kernel_rfl
theorem buildSlice28 (w : World) (x : Int × Raw) : (Instr.buildSlice 28 1 #[(0, .agg (encW x).toArray)]).run Try.prog w = .ok (.slice (some ⟨w.heap.size, 0, none⟩) 1 1) (w.alloc (.cells (encW x).toArray 50)) :=
  run_buildSlice_all (P := Try.prog) (w := w) (t := 28) (e := 50) (s := 2) (vs := [.agg (encW x).toArray]) Try.underlying28 sz50 (zero50 w) (by intro v hv; rw [List.mem_singleton.1 hv]; rfl) (by simp)

/-- A slice of such structs, each with bytes of its own in a block from B on. -/
def PendAt (w : World) (e : TypeId) (B : Nat) (v : Value) (l : List (Int × Sec)) : Prop :=
  ∃ ys : List (Int × Raw), Own w e 2 encW v ys ∧ ys.length = l.length ∧ (∀ b, v.ownBlock = some b → B ≤ b) ∧
    ∀ (i : Nat) (y : Int × Raw) (x : Int × Sec), ys[i]? = some y → l[i]? = some x → y.1 = x.1 ∧ OwnB w (rawV y.2) x.2.1 ∧ ∃ g cap, y.2 = (some ⟨g, 0, none⟩, 256, cap) ∧ B ≤ g

theorem Own.typed {α : Type} {w : World} {e : TypeId} {k : Nat} {enc : α → List Value} {v : Value} {l : List α} (h : Own w e k enc v l) {b : Nat} (hb : v.ownBlock = some b) : ∃ cs, w.heap[b]? = some (.cells cs e) := by
  rcases h.2 with ⟨rfl, _⟩ | ⟨g, cap, cur, rfl, _, hg, _⟩
  · cases hb
  · cases hb; exact ⟨_, hg⟩
theorem Own.apart {α β : Type} {w : World} {e e' : TypeId} {k k' : Nat} {enc : α → List Value} {enc' : β → List Value} {v v' : Value} {l : List α} {l' : List β} (h : Own w e k enc v l) (h' : Own w e' k' enc' v' l') (he : e ≠ e') {b : Nat} (hb : v.ownBlock = some b) : v'.ownBlock ≠ some b := by
  intro hb'
  obtain ⟨cs, h1⟩ := h.typed hb
  obtain ⟨cs', h2⟩ := h'.typed hb'
  rw [h1] at h2
  cases h2
  exact he rfl

theorem PendAt.nil (w : World) (e : TypeId) (B : Nat) : PendAt w e B (.slice none 0 0) [] := ⟨[], Own.nil _ _ _ _, rfl, (fun b hb => by cases hb), (fun i y x h => by cases h)⟩

theorem PendAt.fr {S : Nat → Prop} {w w' : World} {e : TypeId} {B : Nat} {v : Value} {l : List (Int × Sec)} (h : PendAt w e B v l) (hf : Fr S w w') (hs : ∀ k, B ≤ k → ¬ S k) : PendAt w' e B v l := by
  obtain ⟨ys, h1, h2, h3, h4⟩ := h
  refine ⟨ys, h1.fr hf (fun b hb => hs b (h3 b hb)), h2, h3, fun i y x hy hx => ?_⟩
  obtain ⟨e1, e2, g, cap, e3, e4⟩ := h4 i y x hy hx
  refine ⟨e1, e2.fr hf (fun b hb => ?_), g, cap, e3, e4⟩
  rw [e3] at hb
  exact hs b (by have : g = b := Option.some.inj hb; omega)
end Go.Proofs.Yticgkbpmaakkiaa

namespace Go.Proofs.Yticgkbpmaakkiaa
open Go.RowKit

theorem PendAt.snoc {w : World} {e : TypeId} {B : Nat} {v v' : Value} {l : List (Int × Sec)} {x : Int × Sec} {w2 : World} {g cap : Nat} {ys : List (Int × Raw)} (he : e ≠ 5)
    (h1 : Own w e 2 encW v ys) (h2 : ys.length = l.length) (h3 : ∀ b, v.ownBlock = some b → B ≤ b) (h4 : ∀ (i : Nat) (y : Int × Raw) (x : Int × Sec), ys[i]? = some y → l[i]? = some x → y.1 = x.1 ∧ OwnB w (rawV y.2) x.2.1 ∧ ∃ g cap, y.2 = (some ⟨g, 0, none⟩, 256, cap) ∧ B ≤ g)
    (hx : OwnB w (.slice (some ⟨g, 0, none⟩) 256 cap) x.2.1) (hg : B ≤ g)
    (hB : B ≤ w.heap.size) (hv : Own w2 e 2 encW v' (ys ++ [(x.1, (some ⟨g, 0, none⟩, 256, cap))])) (hgr : w.grownBy w2 v.ownBlock) (hb : ∀ b, v'.ownBlock = some b → v.ownBlock = some b ∨ w.heap.size ≤ b) :
    PendAt w2 e B v' (l ++ [x]) := by
  have hF : Fr (fun k => v.ownBlock = some k) w w2 := (Fr.refl _ w).grown hgr (fun k hk _ => hk)
  refine ⟨_, hv, by simp [h2], fun b hb' => ?_, fun i y z hy hz => ?_⟩
  · rcases hb b hb' with h | h
    · exact h3 b h
    · omega
  · by_cases hi : i < l.length
    · rw [List.getElem?_append_left hi] at hz
      rw [List.getElem?_append_left (by omega)] at hy
      obtain ⟨e1, e2, g', c', e3, e4⟩ := h4 i y z hy hz
      exact ⟨e1, Own.fr hF e2 (fun b hb => Own.apart e2 h1 (Ne.symm he) hb), g', c', e3, e4⟩
    · obtain rfl : i = l.length := by
        have := (List.getElem?_eq_some_iff.1 hz).1
        simp at this; omega
      rw [List.getElem?_append_right (by omega)] at hz
      rw [List.getElem?_append_right (by omega)] at hy
      simp only [Nat.sub_self, h2, List.getElem?_cons_zero, Option.some.injEq] at hy hz
      subst hy hz
      exact ⟨rfl, Own.fr hF hx (fun b hb => Own.apart hx h1 (Ne.symm he) hb), g, cap, rfl, hg⟩

set_option maxRecDepth 100000 in
theorem Pending_nil (w : World) : Calls Try.prog 16 #[.pointer none] w fun e w' => e = .returned (.slice none 0 0) ∧ w = w' := by
  go_enter Try.func16, Try.ntmps16
  go_wp2
  go_ret
  exact ⟨rfl, rfl⟩

set_option maxRecDepth 100000 in
theorem Pending_ok (w : World) (p m : Nat) (pv : Value) (D : Dsk) (h : DiskAt w p m pv D) (hl : D.pend.length ≤ 100000) :
    Calls Try.prog 16 #[.pointer (some ⟨p, 0, none⟩)] w fun e w' => ∃ v, e = .returned v ∧ PendAt w' 50 w.heap.size v D.pend ∧ Fr Non w w' := by
  obtain ⟨c0, c1, c2, c3, c4, c5, c6⟩ := h.cell
  have HH := Lib.hid h
  clear h c0 c1 c3 c4 c5 c6
  obtain ⟨a, cap, rfl, hcap, hnil, hag⟩ := Own.shape (show Own w 82 257 wcells pv D.pend from HH.out.hv)
  go_enter Try.func16, Try.ntmps16
  go_wp2
  go_loopw [3, 14] (fun v i wr => ∃ k : Nat, k ≤ D.pend.length ∧ i = .int .i64 k ∧ PendAt wr 50 w.heap.size v (D.pend.take k) ∧ Fr Non w wr) (fun _ i _ => D.pend.length - (intOf i).toNat)
  case atStart => exact ⟨0, by omega, rfl, PendAt.nil _ _ _, Fr.refl _ _⟩
  case round =>
    obtain ⟨k, hk, rfl, hP, hF⟩ := hrel
    have HP := Lib.hid hP
    have HF := Lib.hid hF
    clear hP hF
    by_cases hlt : k < D.pend.length
    · obtain ⟨x, hx⟩ : ∃ x, D.pend[k]? = some x := ⟨_, List.getElem?_eq_getElem hlt⟩
      have HX := Lib.hid hx
      clear hx
      cases a with
      | none => have := hnil rfl; rw [this] at hlt; simp at hlt
      | some ad =>
        obtain ⟨g, rfl⟩ := hag ad rfl
        have hown : Own wr 82 257 wcells (.slice (some ⟨g, 0, none⟩) D.pend.length cap) D.pend := (HH.out.fr HF.out (fun _ _ h => h)).hv
        have hr := Lib.hid (Own.elem elem82 hown HX.out)
        clear hown
        have hWh : (wr.alloc (.cells (wcells x).toArray 82)).heap[wr.heap.size]? = some (.cells (wcells x).toArray 82) := heap_alloc_new wr _
        have hc0 : (wr.alloc (.cells (wcells x).toArray 82)).cell? ⟨wr.heap.size, 0, none⟩ = some (.int .i64 x.1) := cellOf hWh 0 (by simp [wcells])
        have hc1 : (wr.alloc (.cells (wcells x).toArray 82)).rangeAt wr.heap.size 1 (u8s x.2.1) := rangeAt_of hWh 1 _ (fun j v hv => by simpa [wcells, Nat.add_comm 1 j] using hv)
        have HC0 := Lib.hid hc0
        have HC1 := Lib.hid hc1
        have HW : Hid (Fr Non wr (wr.alloc (.cells (wcells x).toArray 82))) := (Fr.refl Non wr).alloc _
        clear hWh hc0 hc1
        go_wp2_with (first
          | (guard_target =~ wpList _ _ _ (⟨_, Op.load 82 _, _, _, _, _⟩ :: _) _ _; refine wl rfl (r_load (b := g) (i := k * 257) rfl rfl hr.out Try.underlying82 rfl (by rw [sz82, wcells_length])) ?_)
          | (guard_target =~ wpList _ _ _ (⟨_, Op.alloc 82, _, _, _, _⟩ :: _) _ _; refine wl rfl (r_allocA rfl (zero82 _)) ?_)
          | (guard_target =~ wpList _ _ _ (⟨_, Op.store 82 _ _, _, _, _, _⟩ :: _) _ _; refine wu rfl (r_store_new (c' := (wcells x).toArray) rfl rfl rfl (by simp [sz82, wcells_length]) (by simp [wcells_length, sec_len]) (all_oneCell_toArray (wcells_one x))) ?_; generalize (wr.alloc (.cells (wcells x).toArray 82)) = w2 at *)
          | fail)
        refine rc (fun w' => w'.cell? ⟨wr.heap.size, 0, none⟩ = some (.int .i64 x.1)) 8 (by kernel_rfl) ?_
        have hS : (fun w' : World => w'.cell? ⟨wr.heap.size, 0, none⟩ = some (.int .i64 x.1)) w2.drew := HC0.out
        refine tc (i := 0) (v := u3) rfl 8 (by kernel_rfl) (fun _ _ _ h => h) rfl (fun w hw => r_move rfl rfl) hS ?_
        simp only [Act.put, List.setIfInBounds_toArray, List.set_cons_zero, List.set_cons_succ]
        refine tc (i := 1) (v := .pointer (some ⟨wr.heap.size, 0, none⟩)) rfl 8 (by kernel_rfl) (fun _ _ _ h => h) rfl (fun w hw => by obtain hw0 := hw; unfold RunV; go_simp) hS ?_
        simp only [Act.put, List.setIfInBounds_toArray, List.set_cons_zero, List.set_cons_succ]
        refine tc (i := 2) (v := .int .i64 x.1) rfl 8 (by kernel_rfl) (fun _ _ _ h => h) rfl (fun w hw => by obtain hw0 := hw; unfold RunV; go_simp) hS ?_
        simp only [Act.put, List.setIfInBounds_toArray, List.set_cons_zero, List.set_cons_succ]
        refine tc (i := 3) (v := .pointer (some ⟨wr.heap.size, 1, none⟩)) rfl 8 (by kernel_rfl) (fun _ _ _ h => h) rfl (fun w hw => by obtain hw0 := hw; unfold RunV; go_simp) hS ?_
        simp only [Act.put, List.setIfInBounds_toArray, List.set_cons_zero, List.set_cons_succ]
        refine tc (i := 4) (v := .slice (some ⟨wr.heap.size, 1, none⟩) 256 256) rfl 8 (by kernel_rfl) (fun _ _ _ h => h) rfl (fun w hw => by obtain hw0 := hw; unfold RunV; go_simp) hS ?_
        simp only [Act.put, List.setIfInBounds_toArray, List.set_cons_zero, List.set_cons_succ]
        clear hS
        refine oc1 (i := 5) rfl (by kernel_rfl) rfl ?_
        unfold Oper.wp
        go_simp
        refine (Clone36 w2.drew _ x.2.1 ⟨some ⟨wr.heap.size, 1, none⟩, 256, by rw [x.2.2], .inr ⟨wr.heap.size, 1, rfl, by simpa using HC1.out⟩⟩ (fun h => by have := x.2.2; rw [h] at this; simp at this) (by rw [x.2.2]; decide)).mono ?_
        rintro e w3 ⟨b3, cap3, rfl, ho3, hF3, hle3, hlt3⟩
        have hsl : x.2.1.length = 256 := x.2.2
        rw [hsl] at ho3 ⊢
        have hc3 : w3.cell? ⟨wr.heap.size, 0, none⟩ = some (.int .i64 x.1) := hF3.cell (show w2.drew.cell? _ = _ from HC0.out) (fun h => h)
        refine ⟨hc3, ?_⟩
        refine oc3 (i := 6) rfl (by kernel_rfl) rfl (w' := w3) hc3 (r_build (vs := [(0, .int .i64 x.1), (1, .slice (some ⟨b3, 0, none⟩) 256 cap3)]) rfl rfl (build50 w3 x.1 (some ⟨b3, 0, none⟩, 256, cap3))) ?_
        simp only [Act.put, List.setIfInBounds_toArray, List.set_cons_zero, List.set_cons_succ]
        refine oc3 (i := 7) rfl (by kernel_rfl) rfl (w' := w3.alloc (.cells (encW (x.1, (some ⟨b3, 0, none⟩, 256, cap3))).toArray 50)) (by rw [World.cell?_alloc_lt _ _ _ (by have := World.block_lt_of_cell? w3 _ hc3; exact this)]; exact hc3) (r_buildSlice (vs := [(0, .agg (encW (x.1, (some ⟨b3, 0, none⟩, 256, cap3))).toArray)]) rfl rfl (buildSlice28 w3 (x.1, (some ⟨b3, 0, none⟩, 256, cap3)))) ?_
        simp only [Act.put, List.setIfInBounds_toArray, List.set_cons_zero, List.set_cons_succ]
        have HWF3 : Hid (Fr Non w w3) := ((HF.out.trans HW.out (fun _ _ h => h)).drew).trans hF3 (fun _ _ h => h)
        have HP3 := HP.out.fr (((HW.out.drew).trans hF3 (fun _ _ h => h)).alloc (.cells (encW (x.1, (some ⟨b3, 0, none⟩, 256, cap3))).toArray 50)) (fun _ _ h => h)
        obtain ⟨ys, hy1, hy2, hy3, hy4⟩ := HP3
        obtain ⟨g4, cap4, w4, hrun4, hown4, hgr4, hlies4, hglt4⟩ := run_append_one elem50 (t := 28) (ty := 28) Try.underlying28 (w := w3.alloc (.cells (encW (x.1, (some ⟨b3, 0, none⟩, 256, cap3))).toArray 50)) hy1 (g := w3.heap.size) (x := (x.1, (some ⟨b3, 0, none⟩, 256, cap3))) (heap_alloc_new w3 _) (by unfold maxLen; rw [hy2, List.length_take]; omega) (by rw [hy2, List.length_take]; omega)
        refine oc2 (i := 8) rfl (by kernel_rfl) rfl (by kernel_rfl) (r_builtin (vs := [u3, .slice (some ⟨w3.heap.size, 0, none⟩) 1 1]) rfl rfl (builtin_append hrun4)) ?_
        simp only [Act.put, List.setIfInBounds_toArray, List.set_cons_zero, List.set_cons_succ]
        refine oc2 (i := 9) (v := .slice (some ⟨g4, 0, none⟩) (ys.length + 1) cap4) rfl (by kernel_rfl) rfl (by kernel_rfl) (r_assign rfl rfl) ?_
        simp only [Act.put, List.setIfInBounds_toArray, List.set_cons_zero, List.set_cons_succ]
        refine dc (by kernel_rfl) ?_
        have hPn : PendAt w4 50 w.heap.size (.slice (some ⟨g4, 0, none⟩) (ys.length + 1) cap4) (D.pend.take k ++ [x]) :=
          PendAt.snoc (w := w3.alloc (.cells (encW (x.1, (some ⟨b3, 0, none⟩, 256, cap3))).toArray 50)) (v := u3) (g := b3) (cap := cap3) (by decide) hy1 hy2 hy3 hy4 (ho3.fr ((Fr.refl Non w3).alloc _) (fun _ _ h => h)) (by have := HF.out.size; have := HW.out.size; simp only [World.drew] at hle3; omega)
            (by have := HWF3.out.size; simp; omega) hown4 hgr4 (fun b hb => by
              have e : g4 = b := Option.some.inj hb
              rcases hlies4 with h | h
              · exact .inl (by rw [← e]; exact h)
              · exact .inr (by omega))
        have HPN := Lib.hid hPn
        have HF4 : Hid (Fr Non w w4) := (HWF3.out.alloc _).grown hgr4 (fun b hb hlt => absurd (hy3 b hb) (by omega))
        clear hPn hF3 hc3 ho3 hy1 hy2 hy3 hy4 hown4 hgr4 hlies4 hrun4 hle3 hlt3 hglt4 hsl
        go_wp2
        go_roundw
        case rel =>
          refine ⟨k + 1, by omega, by go_num, ?_, HF4.out⟩
          rw [List.take_add_one, HX.out]
          exact HPN.out
        case measure => simp [intOf] <;> omega
    · obtain rfl : k = D.pend.length := by omega
      rw [List.take_length] at HP
      go_wp2
      go_ret
      exact ⟨u3, rfl, HP.out, HF.out⟩
end Go.Proofs.Yticgkbpmaakkiaa
