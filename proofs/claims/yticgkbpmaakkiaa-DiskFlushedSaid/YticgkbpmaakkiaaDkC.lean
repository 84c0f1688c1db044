import Derived.Test.YticgkbpmaakkiaaDkB
namespace Go.Proofs.Yticgkbpmaakkiaa
open Go.RowKit

def enc8 (b : UInt8) : List Value := [.int .u8 (b.toNat : Int)]
theorem enc8_flat (l : List UInt8) : l.flatMap enc8 = u8s l := by
  induction l with
  | nil => rfl
  | cons x r ih => rw [List.flatMap_cons, ih]; rfl
theorem elem5 : ElemOk Try.prog 5 1 1 enc8 := ⟨⟨_, info5, rfl⟩, by omega, fun _ => rfl, fun x v hv => by rw [List.mem_singleton.1 hv]; rfl⟩

/-- A slice of bytes of the call's own. -/
abbrev OwnB (w : World) (v : Value) (l : List UInt8) : Prop := Own w 5 1 enc8 v l
theorem OwnB.bytes {w : World} {v : Value} {l : List UInt8} (h : OwnB w v l) : BytesAt w v l := by
  obtain ⟨a, cap, rfl, hc, hn, ha⟩ := Own.shape h
  refine ⟨a, cap, rfl, ?_⟩
  cases a with
  | none => exact .inl (hn rfl)
  | some ad =>
    obtain ⟨g, rfl⟩ := ha ad rfl
    refine .inr ⟨g, 0, rfl, fun j v hv => ?_⟩
    rw [u8s_get] at hv
    obtain ⟨x, hx, rfl⟩ := Option.map_eq_some_iff.1 hv
    have := Own.elem elem5 h hx 0 _ rfl
    simpa using this

theorem zero5 (w : World) : (zeroValue 5).run Try.prog w = .ok (.int .u8 0) w := (zero_of_info (show (Try.prog.info? 5).map (fun i => (i.zero, i.size)) = some (some (.int .u8 0), 1) from by kernel_rfl)).1 w
theorem run_empty30 (w : World) : (Instr.buildSlice 30 0 #[]).run Try.prog w = .ok (.slice (some ⟨w.heap.size, 0, none⟩) 0 0) (w.alloc (.cells #[] 5)) :=
  run_buildSlice_all (P := Try.prog) (vs := []) Try.underlying30 sz5 (zero5 w) (by simp) (by simp)

theorem own_empty (w : World) : OwnB (w.alloc (.cells #[] 5)) (.slice (some ⟨w.heap.size, 0, none⟩) 0 0) [] := by
  refine ⟨by simp, .inr ⟨w.heap.size, 0, #[], rfl, Nat.zero_le _, heap_alloc_new w _, ?_, ?_, ?_, ?_⟩⟩
  · simp
  · simp
  · simp
  · simp

theorem run_dup (w : World) (sv : Value) (l : List UInt8) (h : BytesAt w sv l) (h0 : l ≠ []) (hl : l.length ≤ 100000) :
    ∃ b cap w', (Builtin.append_ #[30, 30] 30 #[.slice (some ⟨w.heap.size, 0, none⟩) 0 0, sv]).run Try.prog (w.alloc (.cells #[] 5)) = .ok (.slice (some ⟨b, 0, none⟩) l.length cap) w' ∧
      OwnB w' (.slice (some ⟨b, 0, none⟩) l.length cap) l ∧ Fr Non w w' ∧ w.heap.size ≤ b ∧ b < w'.heap.size := by
  obtain ⟨a, c, rfl, hh | ⟨g, o, rfl, hr⟩⟩ := h
  · exact absurd hh h0
  obtain ⟨b, cap, w', h1, h2, h3, h4, h5⟩ := run_append_many (P := Try.prog) (t := 30) (ty := 30) elem5 Try.underlying30 (own_empty w) (g := g) (o := o) (c := c) (ys := l)
    (by rw [enc8_flat]; exact rangeAt_fr ((Fr.refl Non w).alloc _) hr (fun h => h)) h0 (by simp [maxLen]; omega) (by simp; omega)
  have hb : b = w.heap.size ∨ b = (w.alloc (.cells #[] 5)).heap.size := by
    rcases h4 with h | h
    · exact .inl (Option.some.inj h).symm
    · exact .inr h
  refine ⟨b, cap, w', by simpa using h1, by simpa using h2, ((Fr.refl Non w).alloc _).grown h3 (fun k hk hlt => by have e : w.heap.size = k := Option.some.inj hk; omega), ?_, h5⟩
  rcases hb with rfl | rfl
  · exact Nat.le_refl _
  · simp
end Go.Proofs.Yticgkbpmaakkiaa
