/-
  The reference's device: how it lies in memory; its small functions.
-/
import Derived.Test.YticgkbpmaakkiaaDkFtoDkHq
namespace Go.Proofs.Yticgkbpmaakkiaa
open Go.RowKit

theorem info45 : (Try.prog.info? 45).map (fun i => (i.zero, i.size)) = some (some (.agg #[.slice none 0 0, .slice none 0 0, .int .i64 0, .bool false, .int .i64 0]), 5) := by kernel_rfl
theorem sz45 : (Try.prog.info? 45).map (·.size) = some 5 := by kernel_rfl
theorem zero45 (w : World) : (zeroValue 45).run Try.prog w = .ok (.agg #[.slice none 0 0, .slice none 0 0, .int .i64 0, .bool false, .int .i64 0]) w := (zero_of_info info45).1 w
theorem info92 : (Try.prog.info? 92).map (fun i => (i.zero, i.size, i.bytes)) = some (some (.agg #[.int .i64 0, .slice none 0 0]), 2, 32) := by kernel_rfl
theorem sz92 : (Try.prog.info? 92).map (·.size) = some 2 := by kernel_rfl
theorem elem92 : ElemOk Try.prog 92 2 32 encW := ⟨⟨_, info92, rfl⟩, by omega, fun _ => rfl, encW_one⟩
theorem zero92 (w : World) : (zeroValue 92).run Try.prog w = .ok (.agg #[.int .i64 0, .slice none 0 0]) w := by
  obtain ⟨i, hi, hz, _⟩ := info_parts info92
  simp [zeroValue, typeInfo, hi, hz]
theorem places92 : placesOf Try.prog 92 = some #[(0, 1), (1, 1)] := by kernel_rfl
theorem build92 (w : World) (n : Int) (s : Raw) : (Instr.build 92 #[(0, .int .i64 n), (1, rawV s)]).run Try.prog w = .ok (.agg (encW (n, s)).toArray) w :=
  run_build_all (P := Try.prog) (w := w) (t := 92) (vs := [.int .i64 n, rawV s]) (zero92 w) places92 (by
    intro j v hj
    match j, hj with
    | 0, hj => cases hj; rfl
    | 1, hj => cases hj; rfl
    | j + 2, hj => simp at hj) rfl
theorem buildSlice43 (w : World) (x : Int × Raw) : (Instr.buildSlice 43 1 #[(0, .agg (encW x).toArray)]).run Try.prog w = .ok (.slice (some ⟨w.heap.size, 0, none⟩) 1 1) (w.alloc (.cells (encW x).toArray 92)) :=
  run_buildSlice_all (P := Try.prog) (w := w) (t := 43) (e := 92) (s := 2) (vs := [.agg (encW x).toArray]) Try.underlying43 sz92 (zero92 w) (by intro v hv; rw [List.mem_singleton.1 hv]; rfl) (by simp)
theorem info30 : (Try.prog.info? 30).map (fun i => (i.zero, i.size, i.bytes)) = some (some (.slice none 0 0), 1, 24) := by kernel_rfl
theorem sz30 : (Try.prog.info? 30).map (·.size) = some 1 := by kernel_rfl
theorem encS_one (x : Raw) : ∀ v ∈ encS x, v.oneCell' = true := fun v hv => by rw [List.mem_singleton.1 hv]; rfl
theorem elem30 : ElemOk Try.prog 30 1 24 encS := ⟨⟨_, info30, rfl⟩, by omega, fun _ => rfl, encS_one⟩
theorem zero30 (w : World) : (zeroValue 30).run Try.prog w = .ok (.slice none 0 0) w := by
  obtain ⟨i, hi, hz, _⟩ := info_parts info30
  simp [zeroValue, typeInfo, hi, hz]
theorem buildSlice42 (w : World) (x : Raw) : (Instr.buildSlice 42 1 #[(0, rawV x)]).run Try.prog w = .ok (.slice (some ⟨w.heap.size, 0, none⟩) 1 1) (w.alloc (.cells (encS x).toArray 30)) :=
  run_buildSlice_all (P := Try.prog) (w := w) (t := 42) (e := 30) (s := 1) (vs := [rawV x]) Try.underlying42 sz30 (zero30 w) (by intro v hv; rw [List.mem_singleton.1 hv]; rfl) (by simp)

/-! ### the reference's state -/
def Dsk.lim (D : Dsk) : Int := if D.limited then D.limit else -1
def refL (dv wv : Value) (D : Dsk) : List Value := [dv, wv, .int .i64 D.lim, .bool D.down, .int .i64 D.ops]

/-- What an honest device's state is bounded by. -/
structure Dok (D : Dsk) : Prop where
  n0 : 1 ≤ D.n
  n1 : D.n ≤ 4096
  len : D.pend.length ≤ 50000
  sec : ∀ x ∈ D.pend, 0 ≤ x.1 ∧ x.1 < D.n
  lim : D.limited = true → 0 ≤ D.limit ∧ D.limit ≤ 9223372036854775807

/-- The reference's device in memory: the slices dv, wv hold the raw slices ss, ys, each with bytes of its own. -/
structure RefIs (w : World) (dv wv : Value) (ss : List Raw) (ys : List (Int × Raw)) (n : Int) (at' : Int → Sec) (pend : List (Int × Sec)) : Prop where
  hd : Own w 30 1 encS dv ss
  hw : Own w 92 2 encW wv ys
  nd : (ss.length : Int) = n
  nw : ys.length = pend.length
  bd : ∀ (i : Nat) (s : Raw), ss[i]? = some s → ∃ g cap, s = (some ⟨g, 0, none⟩, 256, cap) ∧ OwnB w (.slice (some ⟨g, 0, none⟩) 256 cap) (at' i).1
  bw : ∀ (i : Nat) (y : Int × Raw) (x : Int × Sec), ys[i]? = some y → pend[i]? = some x → y.1 = x.1 ∧ ∃ g cap, y.2 = (some ⟨g, 0, none⟩, 256, cap) ∧ OwnB w (.slice (some ⟨g, 0, none⟩) 256 cap) x.2.1
  dd : ∀ (i j : Nat) (s t : Raw), ss[i]? = some s → ss[j]? = some t → s.1 = t.1 → i = j
  dw : ∀ (i j : Nat) (y z : Int × Raw), ys[i]? = some y → ys[j]? = some z → y.2.1 = z.2.1 → i = j
  dx : ∀ (i j : Nat) (s : Raw) (y : Int × Raw), ss[i]? = some s → ys[j]? = some y → s.1 ≠ y.2.1

def RefAt (w : World) (dv wv : Value) (D : Dsk) : Prop := ∃ ss ys, RefIs w dv wv ss ys D.n D.at D.pend

/-- No block of S holds bytes, slices or the reference's writes. -/
def Apart (w : World) (S : Nat → Prop) : Prop := ∀ k, S k → ∀ cs, w.heap[k]? ≠ some (.cells cs 5) ∧ w.heap[k]? ≠ some (.cells cs 30) ∧ w.heap[k]? ≠ some (.cells cs 92)
theorem Apart.non (w : World) : Apart w Non := fun _ h => h.elim

theorem RefIs.fr {w w' : World} {dv wv : Value} {ss : List Raw} {ys : List (Int × Raw)} {n : Int} {at' : Int → Sec} {pend : List (Int × Sec)} (h : RefIs w dv wv ss ys n at' pend) {S : Nat → Prop} (hf : Fr S w w') (hs : Apart w S) : RefIs w' dv wv ss ys n at' pend := by
  have key : ∀ {α : Type} {e : TypeId} {k : Nat} {enc : α → List Value} {v : Value} {l : List α}, (e = 5 ∨ e = 30 ∨ e = 92) → Own w e k enc v l → Own w' e k enc v l := by
    intro α e k enc v l he ho
    refine ho.fr hf (fun b hb hS => ?_)
    obtain ⟨cs, hc⟩ := ho.typed hb
    obtain ⟨h1, h2, h3⟩ := hs b hS cs
    rcases he with rfl | rfl | rfl
    · exact h1 hc
    · exact h2 hc
    · exact h3 hc
  refine ⟨key (.inr (.inl rfl)) h.hd, key (.inr (.inr rfl)) h.hw, h.nd, h.nw, fun i s hi => ?_, fun i y x hy hx => ?_, h.dd, h.dw, h.dx⟩
  · obtain ⟨g, cap, e, ho⟩ := h.bd i s hi
    exact ⟨g, cap, e, key (.inl rfl) ho⟩
  · obtain ⟨e1, g, cap, e, ho⟩ := h.bw i y x hy hx
    exact ⟨e1, g, cap, e, key (.inl rfl) ho⟩

theorem RefAt.fr {w w' : World} {dv wv : Value} {D : Dsk} (h : RefAt w dv wv D) {S : Nat → Prop} (hf : Fr S w w') (hs : Apart w S) : RefAt w' dv wv D := by
  obtain ⟨ss, ys, h⟩ := h
  exact ⟨ss, ys, h.fr hf hs⟩
theorem RefAt.non {w w' : World} {dv wv : Value} {D : Dsk} (h : RefAt w dv wv D) (hf : Fr Non w w') : RefAt w' dv wv D := h.fr hf (Apart.non w)

theorem DiskAt.apart {w : World} {p m : Nat} {pv : Value} {D : Dsk} (h : DiskAt w p m pv D) : Apart w (Foot p m pv) := by
  rintro k (rfl | rfl | hk) cs
  · rw [h.hp]; exact ⟨by simp, by simp, by simp⟩
  · obtain ⟨l, hl, _⟩ := h.hm
    obtain ⟨es, c, hb, _⟩ := hl.ex
    rw [hb]; exact ⟨by simp, by simp, by simp⟩
  · obtain ⟨cs', hc⟩ := Own.typed (show Own w 82 257 wcells pv D.pend from h.hv) hk
    rw [hc]; exact ⟨by simp, by simp, by simp⟩

/-- The slices' shapes. -/
theorem RefAt.dv {w : World} {dv wv : Value} {D : Dsk} (h : RefAt w dv wv D) : ∃ a cap, dv = .slice a D.n.toNat cap := by
  obtain ⟨ss, ys, h⟩ := h
  obtain ⟨a, cap, rfl, _⟩ := Own.shape h.hd
  exact ⟨a, cap, by have := h.nd; congr 1; omega⟩
theorem RefAt.wv {w : World} {dv wv : Value} {D : Dsk} (h : RefAt w dv wv D) : ∃ a cap, wv = .slice a D.pend.length cap := by
  obtain ⟨ss, ys, h⟩ := h
  obtain ⟨a, cap, rfl, _⟩ := Own.shape h.hw
  exact ⟨a, cap, by rw [h.nw]⟩

theorem refL_one {w : World} {dv wv : Value} {D : Dsk} (h : RefAt w dv wv D) (D' : Dsk) : ∀ v ∈ refL dv wv D', v.oneCell' = true := by
  obtain ⟨a, c, rfl⟩ := h.dv
  obtain ⟨b, d, rfl⟩ := h.wv
  intro v hv
  simp only [refL, List.mem_cons, List.not_mem_nil, or_false] at hv
  rcases hv with rfl | rfl | rfl | rfl | rfl <;> rfl

theorem results_cell_tmp {P : Program} {fn : Func} {p q : Tmp} {ty : TypeId} (h : fn.results = #[.cell p ty, .tmp q]) (tmps : Array Value) (w : World) (g : Nat) (t : TypeId) (cs : Array Value) (fr : Nat × Nat) (d : TypeDesc) (v : Value)
    (hp : tmps.getD p undef = .pointer (some ⟨g, 0, none⟩)) (hg : w.heap[g]? = some (.cells cs t fr)) (hv : tmps.getD q undef = v)
    (hu : P.underlying ty = some d) (hd : (match d with | .struct _ | .array _ _ => true | _ => false) = true) (hi : (P.info? ty).map (·.size) = some cs.size) :
    (results fn tmps).run P w = .ok (.tuple #[.agg cs, v]) w := by
  have hp' : tmps[p]?.getD undef = .pointer (some ⟨g, 0, none⟩) := by simpa using hp
  have hv' : tmps[q]?.getD undef = v := by simpa using hv
  simp [results, h, hp', hv', asAddr, run_loadVar_row w g t ty cs fr d hg hu hd hi]

theorem Dsk.has_ref (D : Dsk) (h : Dok D) (i : Int) : (decide (0 ≤ i) && decide (i < (D.n.toNat : Int))) = D.has i := by
  unfold Dsk.has
  have := h.n0
  rw [show (D.n.toNat : Int) = D.n by omega, Bool.decide_and]

set_option maxRecDepth 100000 in
theorem is_c (w : World) (dv wv : Value) (D : Dsk) (i : Int) (hD : Dok D) (h : RefAt w dv wv D) :
    Calls Try.prog 62 #[.agg (refL dv wv D).toArray, .int .i64 i] w fun e w' => e = .returned (.bool (D.has i)) ∧ Fr Non w w' := by
  have hF : Fr Non w (w.alloc (.cells (refL dv wv D).toArray 45)) := (Fr.refl _ w).alloc _
  have hbx := heap_alloc_new w (.cells (refL dv wv D).toArray 45)
  have c0 : (w.alloc (.cells (refL dv wv D).toArray 45)).cell? ⟨w.heap.size, 0, none⟩ = some dv := cellOf hbx 0 rfl
  obtain ⟨a, cap, rfl⟩ := h.dv
  have HF := Lib.hid hF
  have hh := D.has_ref hD i
  rw [← hh]
  clear h hF hD hbx hh
  go_enter Try.func62, Try.ntmps62
  by_cases h0 : 0 ≤ i
  · go_wp2_with (first | (guard_target =~ wpList _ _ _ (⟨_, Op.box 45 _, _, _, _, _⟩ :: _) _ _; refine wl rfl (r_boxA rfl rfl) ?_) | fail)
    go_ret
    exact ⟨by simp [h0], HF.out⟩
  · go_wp2_with (first | (guard_target =~ wpList _ _ _ (⟨_, Op.box 45 _, _, _, _, _⟩ :: _) _ _; refine wl rfl (r_boxA rfl rfl) ?_) | fail)
    go_ret
    exact ⟨by have : ¬ 0 ≤ i := by omega
              simp [this], HF.out⟩

theorem lim_spent (D : Dsk) : D.spent = decide (D.lim = 0) := by
  unfold Dsk.spent Dsk.lim
  cases h : D.limited <;> simp
theorem lim_count (D : Dsk) (hD : Dok D) (hs : D.spent = false) : D.count.lim = if D.lim > 0 then D.lim - 1 else D.lim := by
  unfold Dsk.lim Dsk.count
  unfold Dsk.spent at hs
  cases h : D.limited
  · simp
  · have hl := hD.lim h
    rw [h] at hs
    simp at hs ⊢
    rw [if_pos (by omega)]
    unfold wrap64
    omega
theorem lim_range (D : Dsk) (hD : Dok D) : -1 ≤ D.lim ∧ D.lim ≤ 9223372036854775807 := by
  unfold Dsk.lim
  cases h : D.limited
  · simp
  · have hl := hD.lim h
    simp; omega

set_option maxRecDepth 100000 in
theorem counted_spent (w : World) (dv wv : Value) (D : Dsk) (h : RefAt w dv wv D) (hs : D.spent = true) :
    Calls Try.prog 45 #[.agg (refL dv wv D).toArray] w fun e w' => e = .returned (.tuple #[.agg (refL dv wv { D with down := true }).toArray, .bool true]) ∧ Fr Non w w' := by
  have hb1 := heap_alloc_new w (.cells (refL dv wv D).toArray 45)
  obtain ⟨w1, hw1⟩ : ∃ w1, w.alloc (.cells (refL dv wv D).toArray 45) = w1 := ⟨_, rfl⟩
  rw [hw1] at hb1
  have hs1 : w1.heap.size = w.heap.size + 1 := by rw [← hw1]; simp
  have hF1 : Fr Non w w1 := by rw [← hw1]; exact (Fr.refl _ w).alloc _
  have hl0 : D.lim = 0 := by rw [lim_spent D] at hs; exact of_decide_eq_true hs
  have hone := refL_one h { D with down := true }
  have hb2 : (w1.alloc (.cells #[.slice none 0 0, .slice none 0 0, .int .i64 0, .bool false, .int .i64 0] 45)).heap[w.heap.size]? = some (.cells (refL dv wv D).toArray 45) := ((Fr.refl Non w1).alloc _).keep hb1 (fun h => h)
  have hbn := heap_alloc_new w1 (.cells #[.slice none 0 0, .slice none 0 0, .int .i64 0, .bool false, .int .i64 0] 45)
  obtain ⟨w2, hw2⟩ : ∃ w2, w1.alloc (.cells #[.slice none 0 0, .slice none 0 0, .int .i64 0, .bool false, .int .i64 0] 45) = w2 := ⟨_, rfl⟩
  rw [hw2] at hb2 hbn
  have hF2 : Fr Non w w2 := by rw [← hw2]; exact hF1.alloc _
  have c2 : w2.cell? ⟨w.heap.size, 2, none⟩ = some (.int .i64 D.lim) := cellOf hb2 2 rfl
  have f3 : w2.frozen? ⟨w.heap.size, 3, none⟩ = false := frozenOf hb2 3
  have c3 : w2.cell? ⟨w.heap.size, 3, none⟩ = some (.bool D.down) := cellOf hb2 3 rfl
  have hb3 : (w2.setCell ⟨w.heap.size, 3, none⟩ (.bool true)).heap[w.heap.size]? = some (.cells (refL dv wv { D with down := true }).toArray 45) := by
    rw [heap_setCell_at hb2]; rfl
  have hr3 := rangeAt_of hb3 0 (refL dv wv { D with down := true }) (by simp)
  have ht3 : (w2.setCell ⟨w.heap.size, 3, none⟩ (.bool true)).there w1.heap.size 0 5 := there_of (w := w2.setCell ⟨w.heap.size, 3, none⟩ (.bool true)) (((Fr.refl (· = w.heap.size) w2).setCell _ _ (fun _ => rfl)).keep hbn (by omega)) 0 5 (by simp)
  have hF3 : Fr Non w (w2.setCell ⟨w.heap.size, 3, none⟩ (.bool true)) := hF2.setCell _ _ (fun h => by simp at h)
  have hn3 := ((Fr.refl (· = w.heap.size) w2).setCell ⟨w.heap.size, 3, none⟩ (.bool true) (fun _ => rfl)).keep hbn (by omega)
  have hb4 : ((w2.setCell ⟨w.heap.size, 3, none⟩ (.bool true)).setCells w1.heap.size 0 (refL dv wv { D with down := true })).heap[w1.heap.size]? = some (.cells (refL dv wv { D with down := true }).toArray 45) := by
    rw [heap_setCells _ 0 _ _ hn3 (by simp [refL])]; simp [refL]
  have hF4 : Fr Non w ((w2.setCell ⟨w.heap.size, 3, none⟩ (.bool true)).setCells w1.heap.size 0 (refL dv wv { D with down := true })) := Fr.setCells _ (fun h => by omega) _ _ _ hF3
  have HR3 := Lib.hid hr3
  have HT3 := Lib.hid ht3
  have HB4 := Lib.hid hb4
  have HF4 := Lib.hid hF4
  have HONE := Lib.hid hone
  rw [hl0] at c2
  clear hb1 hs1 hF1 hl0 hone hb2 hbn hF2 hb3 hr3 ht3 hF3 hn3 hb4 hF4 h hs
  go_enter Try.func45, Try.ntmps45
  go_wp2_with (first
    | (guard_target =~ wpList _ _ _ (⟨_, Op.box 45 _, _, _, _, _⟩ :: _) _ _; refine wl rfl (r_boxA rfl rfl) ?_; rw [hw1])
    | (guard_target =~ wpList _ _ _ (⟨_, Op.alloc 45, _, _, _, _⟩ :: _) _ _; refine wl rfl (r_allocA rfl (zero45 _)) ?_; rw [hw2])
    | (guard_target =~ wpList _ _ _ (⟨_, Op.load 45 _, _, _, _, _⟩ :: _) _ _; refine wl rfl (r_load (b := w.heap.size) (i := 0) rfl rfl HR3.out Try.underlying45 rfl (by rw [sz45]; rfl)) ?_)
    | (guard_target =~ wpList _ _ _ (⟨_, Op.store 45 _ _, _, _, _, _⟩ :: _) _ _; refine wu rfl (r_store (b := w1.heap.size) (i := 0) (cs := refL dv wv { D with down := true }) rfl rfl rfl HT3.out (by rw [sz45]; rfl) HONE.out) ?_)
    | fail)
  refine bodyPost_ret (results_cell_tmp rfl _ _ w1.heap.size 45 _ (0, 0) _ _ rfl HB4.out rfl Try.underlying45 rfl (by rw [sz45]; rfl)) rfl ⟨rfl, HF4.out⟩

abbrev zref : Array Value := #[.slice none 0 0, .slice none 0 0, .int .i64 0, .bool false, .int .i64 0]
/-- The two blocks that the reference's functions begin with. -/
theorem box2 (w : World) (cs : Array Value) : ∃ w1 w2, w.alloc (.cells cs 45) = w1 ∧ w1.alloc (.cells zref 45) = w2 ∧ w1.heap.size = w.heap.size + 1 ∧ w2.heap.size = w.heap.size + 2 ∧
    w2.heap[w.heap.size]? = some (.cells cs 45) ∧ w2.heap[w1.heap.size]? = some (.cells zref 45) ∧ Fr Non w w2 ∧ Fr Non w w1 ∧ w1.heap[w.heap.size]? = some (.cells cs 45) :=
  ⟨_, _, rfl, rfl, by simp, by simp, ((Fr.refl Non (w.alloc (.cells cs 45))).alloc _).keep (heap_alloc_new w _) (fun h => h), heap_alloc_new _ _, ((Fr.refl Non w).alloc _).alloc _, (Fr.refl Non w).alloc _, heap_alloc_new w _⟩
theorem put45 {W : World} {b : Nat} {old : Array Value} (h : W.heap[b]? = some (.cells old 45)) (hs : old.size = 5) {l : List Value} (hl : l.length = 5) : (W.setCells b 0 l).heap[b]? = some (.cells l.toArray 45) := by
  rw [heap_setCells l 0 old W h (by omega)]
  simp [hl, hs]
theorem there45 {W : World} {b : Nat} {old : Array Value} (h : W.heap[b]? = some (.cells old 45)) (hs : old.size = 5) : W.there b 0 5 := there_of h 0 5 (by omega)

set_option maxRecDepth 100000 in
theorem counted_yes (w : World) (dv wv : Value) (D : Dsk) (hD : Dok D) (h : RefAt w dv wv D) (hs : D.spent = false) :
    Calls Try.prog 45 #[.agg (refL dv wv D).toArray] w fun e w' => e = .returned (.tuple #[.agg (refL dv wv D.count).toArray, .bool false]) ∧ Fr Non w w' := by
  obtain ⟨w1, w2, hw1, hw2, hs1, hs2, hb, hz, hF2, -, -⟩ := box2 w (refL dv wv D).toArray
  have hc := lim_count D hD hs
  have hlr := lim_range D hD
  have hl0 : D.lim ≠ 0 := by rw [lim_spent D] at hs; exact of_decide_eq_false hs
  have hone := refL_one h D.count
  -- where the state ends
  have hfin : ∀ W, W.heap[w.heap.size]? = some (.cells (refL dv wv D.count).toArray 45) → Fr (· = w.heap.size) w2 W →
      (W.rangeAt w.heap.size 0 (refL dv wv D.count) ∧ W.there w1.heap.size 0 5) ∧ (W.setCells w1.heap.size 0 (refL dv wv D.count)).heap[w1.heap.size]? = some (.cells (refL dv wv D.count).toArray 45) ∧ Fr Non w (W.setCells w1.heap.size 0 (refL dv wv D.count)) := by
    intro W h1 h2
    have hn := h2.keep hz (by omega)
    exact ⟨⟨rangeAt_of h1 0 _ (by simp), there45 hn rfl⟩, put45 hn rfl rfl, Fr.setCells _ (fun h => by omega) _ _ _ (hF2.trans h2 (fun i hi e => by omega))⟩
  have hO4 : ∀ W : World, W.cell? ⟨w.heap.size, 4, none⟩ = some (.int .i64 D.ops) → True := fun _ _ => trivial
  have c2 : w2.cell? ⟨w.heap.size, 2, none⟩ = some (.int .i64 D.lim) := cellOf hb 2 rfl
  have f2 : w2.frozen? ⟨w.heap.size, 2, none⟩ = false := frozenOf hb 2
  have f4 : w2.frozen? ⟨w.heap.size, 4, none⟩ = false := frozenOf hb 4
  have c4 : w2.cell? ⟨w.heap.size, 4, none⟩ = some (.int .i64 D.ops) := cellOf hb 4 rfl
  by_cases hp : 0 < D.lim
  · have hlr1 := hlr.2
    have hW1 : ((w2.setCell ⟨w.heap.size, 2, none⟩ (.int .i64 (D.lim - 1))).setCell ⟨w.heap.size, 4, none⟩ (.int .i64 (wrap64 (D.ops + 1)))).heap[w.heap.size]? = some (.cells (refL dv wv D.count).toArray 45) := by
      rw [heap_setCell_at (heap_setCell_at hb _ _)]
      simp only [refL, hc]
      rw [if_pos hp]
      rfl
    have hX := hfin _ hW1 (((Fr.refl (· = w.heap.size) w2).setCell _ _ (fun _ => rfl)).setCell _ _ (fun _ => rfl))
    have HX := Lib.hid hX
    have HONE := Lib.hid hone
    clear hX hfin hW1 hone hc hlr hl0 hF2 hb hz hs1 hs2 h hD hs hO4
    go_enter Try.func45, Try.ntmps45
    go_wp2_with (first
      | (guard_target =~ wpList _ _ _ (⟨_, Op.box 45 _, _, _, _, _⟩ :: _) _ _; refine wl rfl (r_boxA rfl rfl) ?_; rw [hw1])
      | (guard_target =~ wpList _ _ _ (⟨_, Op.alloc 45, _, _, _, _⟩ :: _) _ _; refine wl rfl (r_allocA rfl (zero45 _)) ?_; rw [hw2])
      | (guard_target =~ wpList _ _ _ (⟨_, Op.load 45 _, _, _, _, _⟩ :: _) _ _; refine wl rfl (r_load (b := w.heap.size) (i := 0) rfl rfl HX.out.1.1 Try.underlying45 rfl (by rw [sz45]; rfl)) ?_)
      | (guard_target =~ wpList _ _ _ (⟨_, Op.store 45 _ _, _, _, _, _⟩ :: _) _ _; refine wu rfl (r_store (b := w1.heap.size) (i := 0) (cs := refL dv wv D.count) rfl rfl rfl HX.out.1.2 (by rw [sz45]; rfl) HONE.out) ?_)
      | fail)
    refine bodyPost_ret (results_cell_tmp rfl _ _ w1.heap.size 45 _ (0, 0) _ _ rfl HX.out.2.1 rfl Try.underlying45 rfl (by rw [sz45]; rfl)) rfl ⟨rfl, HX.out.2.2⟩
  · have hm1 : D.lim = -1 := by omega
    have hW1 : (w2.setCell ⟨w.heap.size, 4, none⟩ (.int .i64 (wrap64 (D.ops + 1)))).heap[w.heap.size]? = some (.cells (refL dv wv D.count).toArray 45) := by
      rw [heap_setCell_at hb]
      simp only [refL, hc]
      rw [if_neg hp]
      rfl
    have hX := hfin _ hW1 ((Fr.refl (· = w.heap.size) w2).setCell _ _ (fun _ => rfl))
    have HX := Lib.hid hX
    have HONE := Lib.hid hone
    rw [hm1] at c2
    clear hX hfin hW1 hone hc hlr hl0 hF2 hb hz hs1 hs2 h hD hs hO4 hp hm1
    go_enter Try.func45, Try.ntmps45
    go_wp2_with (first
      | (guard_target =~ wpList _ _ _ (⟨_, Op.box 45 _, _, _, _, _⟩ :: _) _ _; refine wl rfl (r_boxA rfl rfl) ?_; rw [hw1])
      | (guard_target =~ wpList _ _ _ (⟨_, Op.alloc 45, _, _, _, _⟩ :: _) _ _; refine wl rfl (r_allocA rfl (zero45 _)) ?_; rw [hw2])
      | (guard_target =~ wpList _ _ _ (⟨_, Op.load 45 _, _, _, _, _⟩ :: _) _ _; refine wl rfl (r_load (b := w.heap.size) (i := 0) rfl rfl HX.out.1.1 Try.underlying45 rfl (by rw [sz45]; rfl)) ?_)
      | (guard_target =~ wpList _ _ _ (⟨_, Op.store 45 _ _, _, _, _, _⟩ :: _) _ _; refine wu rfl (r_store (b := w1.heap.size) (i := 0) (cs := refL dv wv D.count) rfl rfl rfl HX.out.1.2 (by rw [sz45]; rfl) HONE.out) ?_)
      | fail)
    refine bodyPost_ret (results_cell_tmp rfl _ _ w1.heap.size 45 _ (0, 0) _ _ rfl HX.out.2.1 rfl Try.underlying45 rfl (by rw [sz45]; rfl)) rfl ⟨rfl, HX.out.2.2⟩
end Go.Proofs.Yticgkbpmaakkiaa
