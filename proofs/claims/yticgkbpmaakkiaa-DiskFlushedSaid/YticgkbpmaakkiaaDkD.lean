import Derived.Test.YticgkbpmaakkiaaDkC
import Derived.Laws.Cover3
namespace Go.Proofs.Yticgkbpmaakkiaa
open Go.RowKit

theorem eql_nil {P : Program} {t e : TypeId} (h : P.underlying t = some (.slice e)) (w : World) (a : Option Addr) (l c : Nat) : (binOp .eql t (.slice a l c) (.slice none 0 0)).run P w = .ok (.bool a.isNone) w := by
  simp only [binOp]
  simp [run_equal_slice_nil w t e a l c h]

set_option maxRecDepth 100000 in
theorem Clone36 (w : World) (sv : Value) (l : List UInt8) (h : BytesAt w sv l) (h0 : l ≠ []) (hl : l.length ≤ 100000) :
    Calls Try.prog 36 #[sv] w fun e w' => ∃ b cap, e = .returned (.slice (some ⟨b, 0, none⟩) l.length cap) ∧ OwnB w' (.slice (some ⟨b, 0, none⟩) l.length cap) l ∧ Fr Non w w' ∧ w.heap.size ≤ b ∧ b < w'.heap.size := by
  obtain ⟨b, cap, w', hrun, ho, hF, hle, hlt⟩ := run_dup w sv l h h0 hl
  obtain ⟨a, c, rfl, hh | ⟨g, o, rfl, hr⟩⟩ := h
  · exact absurd hh h0
  have HFIN := Lib.hid (And.intro ho (And.intro hF (And.intro hle hlt)))
  have HRUN := Lib.hid hrun
  have heq := eql_nil Try.underlying30 w (some ⟨g, o, none⟩) l.length c
  clear ho hF hle hlt hr h0 hl hrun
  go_enter Try.func36, Try.ntmps36
  go_wp2_with (first
    | (guard_target =~ wpList _ _ _ (⟨_, Op.buildSlice 30 0 _, _, _, _, _⟩ :: _) _ _; refine wl rfl (r_buildSlice (vs := []) rfl rfl (run_empty30 w)) ?_)
    | (guard_target =~ wpList _ _ _ (⟨_, Op.call { callee := .builtin .append, args := _, argTypes := _ }, _, _, _, _⟩ :: _) _ _; refine wl rfl (r_builtin (vs := [.slice (some ⟨w.heap.size, 0, none⟩) 0 0, .slice (some ⟨g, o, none⟩) l.length c]) rfl rfl (builtin_append HRUN.out)) ?_)
    | fail)
  go_ret
  exact ⟨b, cap, rfl, HFIN.out⟩

/-! ### structs of a number and a slice of bytes -/
abbrev Raw := Option Addr × Nat × Nat
def rawV (s : Raw) : Value := .slice s.1 s.2.1 s.2.2
def encS (s : Raw) : List Value := [rawV s]
def encW (x : Int × Raw) : List Value := [.int .i64 x.1, rawV x.2]
theorem encW_one (x : Int × Raw) : ∀ v ∈ encW x, v.oneCell' = true := by
  intro v hv
  rcases List.mem_cons.1 hv with rfl | hv
  · rfl
  · rw [List.mem_singleton.1 hv]; rfl
theorem info50 : (Try.prog.info? 50).map (fun i => (i.zero, i.size, i.bytes)) = some (some (.agg #[.int .i64 0, .slice none 0 0]), 2, 32) := by kernel_rfl
theorem elem50 : ElemOk Try.prog 50 2 32 encW := ⟨⟨_, info50, rfl⟩, by omega, fun _ => rfl, encW_one⟩
theorem zero50 (w : World) : (zeroValue 50).run Try.prog w = .ok (.agg #[.int .i64 0, .slice none 0 0]) w := by
  obtain ⟨i, hi, hz, _⟩ := info_parts info50
  simp [zeroValue, typeInfo, hi, hz]
theorem places50 : placesOf Try.prog 50 = some #[(0, 1), (1, 1)] := by kernel_rfl
theorem build50 (w : World) (n : Int) (s : Raw) : (Instr.build 50 #[(0, .int .i64 n), (1, rawV s)]).run Try.prog w = .ok (.agg (encW (n, s)).toArray) w :=
  run_build_all (P := Try.prog) (w := w) (t := 50) (vs := [.int .i64 n, rawV s]) (zero50 w) places50 (by
    intro j v hj
    match j, hj with
    | 0, hj => cases hj; rfl
    | 1, hj => cases hj; rfl
    | j + 2, hj => simp at hj) rfl
theorem sz50 : (Try.prog.info? 50).map (·.size) = some 2 := by kernel_rfl
theorem buildSlice28 (w : World) (x : Int × Raw) : (Instr.buildSlice 28 1 #[(0, .agg (encW x).toArray)]).run Try.prog w = .ok (.slice (some ⟨w.heap.size, 0, none⟩) 1 1) (w.alloc (.cells (encW x).toArray 50)) :=
  run_buildSlice_all (P := Try.prog) (w := w) (t := 28) (e := 50) (s := 2) (vs := [.agg (encW x).toArray]) Try.underlying28 sz50 (zero50 w) (by intro v hv; rw [List.mem_singleton.1 hv]; rfl) (by simp)

/-- A slice of such structs, each with bytes of its own in a block from B on. -/
def PendAt (w : World) (e : TypeId) (B : Nat) (v : Value) (l : List (Int × Sec)) : Prop :=
  ∃ ys : List (Int × Raw), Own w e 2 encW v ys ∧ ys.length = l.length ∧ (∀ b, v.ownBlock = some b → B ≤ b) ∧
    ∀ (i : Nat) (y : Int × Raw) (x : Int × Sec), ys[i]? = some y → l[i]? = some x → y.1 = x.1 ∧ OwnB w (rawV y.2) x.2.1 ∧ ∃ g cap, y.2 = (some ⟨g, 0, none⟩, 256, cap) ∧ B ≤ g

theorem Own.typed {α : Type} {w : World} {e : TypeId} {k : Nat} {enc : α → List Value} {v : Value} {l : List α} (h : Own w e k enc v l) {b : Nat} (hb : v.ownBlock = some b) : ∃ cs, w.heap[b]? = some (.cells cs e) := by
  rcases h.2 with ⟨rfl, _⟩ | ⟨g, cap, cur, rfl, _, hg, _⟩
  · cases hb
  · cases hb; exact ⟨_, hg⟩
theorem Own.apart {α β : Type} {w : World} {e e' : TypeId} {k k' : Nat} {enc : α → List Value} {enc' : β → List Value} {v v' : Value} {l : List α} {l' : List β} (h : Own w e k enc v l) (h' : Own w e' k' enc' v' l') (he : e ≠ e') {b : Nat} (hb : v.ownBlock = some b) : v'.ownBlock ≠ some b := by
  intro hb'
  obtain ⟨cs, h1⟩ := h.typed hb
  obtain ⟨cs', h2⟩ := h'.typed hb'
  rw [h1] at h2
  cases h2
  exact he rfl

theorem PendAt.nil (w : World) (e : TypeId) (B : Nat) : PendAt w e B (.slice none 0 0) [] := ⟨[], Own.nil _ _ _ _, rfl, (fun b hb => by cases hb), (fun i y x h => by cases h)⟩

theorem PendAt.fr {S : Nat → Prop} {w w' : World} {e : TypeId} {B : Nat} {v : Value} {l : List (Int × Sec)} (h : PendAt w e B v l) (hf : Fr S w w') (hs : ∀ k, B ≤ k → ¬ S k) : PendAt w' e B v l := by
  obtain ⟨ys, h1, h2, h3, h4⟩ := h
  refine ⟨ys, h1.fr hf (fun b hb => hs b (h3 b hb)), h2, h3, fun i y x hy hx => ?_⟩
  obtain ⟨e1, e2, g, cap, e3, e4⟩ := h4 i y x hy hx
  refine ⟨e1, e2.fr hf (fun b hb => ?_), g, cap, e3, e4⟩
  rw [e3] at hb
  exact hs b (by have : g = b := Option.some.inj hb; omega)
end Go.Proofs.Yticgkbpmaakkiaa
