/-
  
-/
import Derived.Test.YticgkbpmaakkiaaDk7q
import Derived.Test.YticgkbpmaakkiaaRngq
import Derived.RangeFuncBox

namespace Go.Proofs.Yticgkbpmaakkiaa
open Go.RowKit Go.Shelf

attribute [local go_sem] Oper.semAt_some

/-- What slices.Backward hands over: the elements from the last one on, each with its index. -/
def backL (l : List (Int × Sec)) (j : Nat) : List (Nat × (Int × Sec)) := (List.range j).map fun t => (l.length - 1 - t, l.getD (l.length - 1 - t) (0, zeroSec))
theorem backL_succ (l : List (Int × Sec)) (j : Nat) : backL l (j + 1) = backL l j ++ [(l.length - 1 - j, l.getD (l.length - 1 - j) (0, zeroSec))] := by simp [backL, List.range_succ]
theorem backL_length (l : List (Int × Sec)) (j : Nat) : (backL l j).length = j := by simp [backL]

def encBack (x : Nat × (Int × Sec)) : Array Value := #[.int .i64 (x.1 : Int), .agg (wcells x.2).toArray]

set_option maxRecDepth 100000 in
set_option maxHeartbeats 1000000 in
theorem back_in (l Bs n₀ b cap : Nat) (xs : List (Int × Sec)) (hlen : xs.length ≤ 100000) (hb : b < n₀) (hBs0 : Bs < n₀) (J Jx : List (Nat × (Int × Sec)) → World → Prop)
    (hY : ∀ pre x W, J pre W → pre.length < xs.length → YieldAt Fence.wide (2 - 1) Try.prog l (encBack x) W fun e W' =>
      (e = .returned (.bool true) ∧ J (pre ++ [x]) W' ∧ Below n₀ W W') ∨ (e = .returned (.bool false) ∧ Jx (pre ++ [x]) W'))
    (W : World) (hBs : W.cell? ⟨Bs, 0, none⟩ = some (.slice (some ⟨b, 0, none⟩) xs.length cap)) (hc : Own W 82 257 wcells (.slice (some ⟨b, 0, none⟩) xs.length cap) xs) (h0 : J [] W) :
    CallsIn Fence.wide 2 Try.prog 66 #[.func (.yield l) #[] #[], .pointer (some ⟨Bs, 0, none⟩)] W fun e W' => (∃ v, e = .returned v) ∧
      ((∃ ys, ys = backL xs xs.length ∧ J ys W') ∨ (∃ pre, (∃ k, k ≤ xs.length ∧ pre = backL xs k) ∧ Jx pre W')) := by
  refine callsIn_of_wp Try.func66 rfl trivial ?_ rfl
  simp only [Try.ntmps66, List.size_toArray, List.length_cons, List.length_nil, Nat.reduceAdd, Nat.reduceSub, Array.replicate_succ, Array.replicate_zero, List.push_toArray, List.append_toArray, List.nil_append, List.cons_append]
  have HC := Lib.hid hc
  clear hc
  gi_wp2
  gi_loopw [3] (fun i wr => ((∃ k : Nat, k < xs.length ∧ i = .int .i64 k ∧ J (backL xs (xs.length - 1 - k)) wr) ∨ (i = .int .i64 (-1) ∧ J (backL xs xs.length) wr)) ∧ Below n₀ W wr)
    (fun i _ => (intOf i + 1).toNat)
  case atStart =>
    refine ⟨?_, Below.refl _ _⟩
    by_cases h : xs.length = 0
    · exact .inr ⟨by rw [h]; rfl, by rw [h]; exact h0⟩
    · exact .inl ⟨xs.length - 1, by omega, by go_num, by rw [Nat.sub_self]; exact h0⟩
  case round =>
    obtain ⟨⟨k, hk, rfl, hJs⟩ | ⟨rfl, hJs⟩, hnx⟩ := hrel
    · have hx : xs[k]? = some (xs.getD k (0, zeroSec)) := by rw [List.getD_eq_getElem?_getD, List.getElem?_eq_getElem hk]; rfl
      generalize hxk : xs.getD k (0, zeroSec) = x at hx
      have hr : wr.rangeAt b (k * 257) (wcells x) := fun j u hu => (hnx.cell (p := ⟨b, k * 257 + j, none⟩) hb).trans (Own.elem elem82 HC.out hx j u hu)
      have hBs' := (hnx.cell (p := ⟨Bs, 0, none⟩) hBs0).trans hBs
      have hback : backL xs (xs.length - 1 - k) ++ [(k, x)] = backL xs (xs.length - 1 - k + 1) := by
        rw [backL_succ, show xs.length - 1 - (xs.length - 1 - k) = k by omega, hxk]
      have HR := Lib.hid hr
      have HX := Lib.hid hxk
      have HB := Lib.hid hback
      clear hr hx hxk hback
      obtain ⟨fn, tmps, assign, body, hy, hR⟩ := hY _ (k, x) wr hJs (by rw [backL_length]; omega)
      simp only [encBack] at hy
      gi_wp2_with (first
        | (guard_target =~ wpListIn _ _ _ _ _ (⟨_, Op.load 82 _, _, _, _, _⟩ :: _) _ _; refine wlIn rfl rfl (r_load (b := b) (i := k * 257) rfl rfl HR.out Try.underlying82 rfl (by rw [sz82, wcells_length])) ?_)
        | fail)
      refine hR.mono ?_
      rintro e W3 (⟨rfl, hJ3, hk3⟩ | ⟨rfl, hJx3⟩)
      · gi_wp2
        go_roundw
        case rel =>
          refine ⟨?_, hnx.trans hk3⟩
          rw [HB.out] at hJ3
          by_cases h : k = 0
          · subst h
            exact .inr ⟨by simp, by rw [show xs.length - 1 - 0 + 1 = xs.length by omega] at hJ3; exact hJ3⟩
          · exact .inl ⟨k - 1, by omega, by go_num, by rw [show xs.length - 1 - (k - 1) = xs.length - 1 - k + 1 by omega]; exact hJ3⟩
        case measure => simp [intOf] <;> omega
      · gi_wp2
        refine bodyPost_ret (results_none rfl _ _ _) rfl ?_
        rw [HB.out] at hJx3
        exact ⟨⟨_, rfl⟩, .inr ⟨_, ⟨xs.length - 1 - k + 1, by omega, rfl⟩, hJx3⟩⟩
    · gi_wp2
      go_end0
      exact ⟨⟨_, rfl⟩, .inl ⟨_, rfl, hJs⟩⟩

set_option maxRecDepth 100000 in
set_option maxHeartbeats 1000000 in
theorem back_nil_in (l Bs : Nat) (J : List (Nat × (Int × Sec)) → World → Prop) (W : World) (hBs : W.cell? ⟨Bs, 0, none⟩ = some (.slice none 0 0)) (h0 : J [] W) :
    CallsIn Fence.wide 2 Try.prog 66 #[.func (.yield l) #[] #[], .pointer (some ⟨Bs, 0, none⟩)] W fun e W' => (∃ v, e = .returned v) ∧ J [] W' := by
  refine callsIn_of_wp Try.func66 rfl trivial ?_ rfl
  simp only [Try.ntmps66, List.size_toArray, List.length_cons, List.length_nil, Nat.reduceAdd, Nat.reduceSub, Array.replicate_succ, Array.replicate_zero, List.push_toArray, List.append_toArray, List.nil_append, List.cons_append]
  gi_wp2
  gi_loopw [3] (fun i wr => i = .int .i64 (-1) ∧ J [] wr) (fun _ _ => 0)
  case atStart => exact ⟨by go_num, h0⟩
  case round =>
    obtain ⟨rfl, hJs⟩ := hrel
    gi_wp2
    go_end0
    exact ⟨⟨_, rfl⟩, hJs⟩

set_option maxRecDepth 100000 in
theorem Backward_c (w : World) (a : Option Addr) (len cap : Nat) :
    Calls Try.prog 57 #[.slice a len cap] w fun e w' => e = .returned (.func (.func 66) #[] #[.pointer (some ⟨w.heap.size, 0, none⟩)]) ∧ w' = w.alloc (.cells #[.slice a len cap] 76) := by
  go_enter Try.func57, Try.ntmps57
  go_wp2
  go_ret
  exact ⟨rfl, rfl⟩

theorem back_stops (cap Bs : Nat) (a : Option Addr) (xs : List (Int × Sec)) (hlen : xs.length ≤ 100000) (w : World) (hBs : Bs < w.heap.size)
    (hc : w.cell? ⟨Bs, 0, none⟩ = some (.slice a xs.length cap)) (hI : Own w 82 257 wcells (.slice a xs.length cap) xs) :
    SeqStopsK Fence.wide 2 Try.prog 66 #[.pointer (some ⟨Bs, 0, none⟩)] encBack (Below w.heap.size) (fun ys => ys = backL xs xs.length) (fun pre => ∃ k, k ≤ xs.length ∧ pre = backL xs k) xs.length w := fun l J Jx W hW _ _ hY h0 => by
  have hc' := (hW.cell (p := ⟨Bs, 0, none⟩) hBs).trans hc
  obtain ⟨a', cap', hv, -, hnil, hag⟩ := Own.shape hI
  cases hv
  have hF : Fr Non w W := Fr.of_new hW _
  cases a with
  | none =>
    have h0' := hnil rfl
    subst h0'
    have : cap = 0 := by rcases hI.2 with ⟨hh, _⟩ | ⟨g, cap', cur, hv, _⟩; exact (by cases hh; rfl); cases hv
    subst this
    exact (back_nil_in l Bs J W hc' h0).mono fun e W' ⟨he, hj⟩ => ⟨he, .inl ⟨_, rfl, hj⟩⟩
  | some ad =>
    obtain ⟨b, rfl⟩ := hag ad rfl
    have hb : b < w.heap.size := Own.lt hI rfl
    exact back_in l Bs w.heap.size b cap xs hlen hb hBs J Jx hY W hc' (hI.fr hF (fun _ _ h => h)) h0

/-! ### what a sector shows -/
def seen (n : Int) (l : List (Int × Sec)) (s : Sec) : Sec := l.foldl (fun s x => if x.1 = n then x.2 else s) s
theorem seen_none (n : Int) : ∀ (l : List (Int × Sec)) (s : Sec), (∀ x ∈ l, x.1 ≠ n) → seen n l s = s
  | [], _, _ => rfl
  | x :: r, s, h => by
    show seen n r (if x.1 = n then x.2 else s) = s
    rw [if_neg (h x (List.mem_cons_self ..))]
    exact seen_none n r s (fun y hy => h y (List.mem_cons_of_mem _ hy))
theorem seen_append (n : Int) (a b : List (Int × Sec)) (s : Sec) : seen n (a ++ b) s = seen n b (seen n a s) := List.foldl_append ..
theorem seen_at (n : Int) (xs : List (Int × Sec)) (s : Sec) (k : Nat) (hk : k < xs.length) (h1 : ∀ t, t < k → (xs.getD (xs.length - 1 - t) (0, zeroSec)).1 ≠ n) (h2 : (xs.getD (xs.length - 1 - k) (0, zeroSec)).1 = n) :
    seen n xs s = (xs.getD (xs.length - 1 - k) (0, zeroSec)).2 := by
  have hj : xs.length - 1 - k < xs.length := by omega
  have e : xs = xs.take (xs.length - 1 - k) ++ xs.getD (xs.length - 1 - k) (0, zeroSec) :: xs.drop (xs.length - 1 - k + 1) := by
    rw [List.getD_eq_getElem?_getD, List.getElem?_eq_getElem hj, Option.getD_some, List.getElem_cons_drop, List.take_append_drop]
  rw [show seen n xs s = seen n (xs.take (xs.length - 1 - k) ++ xs.getD (xs.length - 1 - k) (0, zeroSec) :: xs.drop (xs.length - 1 - k + 1)) s by rw [← e]]
  rw [seen_append]
  show seen n (xs.drop _) (if _ then _ else _) = _
  rw [if_pos h2, seen_none]
  intro x hx
  obtain ⟨i, hi, rfl⟩ := List.mem_iff_getElem.1 hx
  rw [List.length_drop] at hi
  have := h1 (xs.length - 1 - (xs.length - 1 - k + 1 + i)) (by omega)
  rw [show xs.length - 1 - (xs.length - 1 - (xs.length - 1 - k + 1 + i)) = xs.length - 1 - k + 1 + i by omega, List.getD_eq_getElem?_getD, List.getElem?_eq_getElem (by omega)] at this
  rw [List.getElem_drop]
  exact this
theorem seen_all (n : Int) (xs : List (Int × Sec)) (s : Sec) (h : ∀ y ∈ backL xs xs.length, y.2.1 ≠ n) : seen n xs s = s := by
  refine seen_none n xs s fun x hx => ?_
  obtain ⟨i, hi, rfl⟩ := List.mem_iff_getElem.1 hx
  have := h (i, xs.getD i (0, zeroSec)) (by
    refine List.mem_map.2 ⟨xs.length - 1 - i, List.mem_range.2 (by omega), ?_⟩
    rw [show xs.length - 1 - (xs.length - 1 - i) = i by omega])
  rw [List.getD_eq_getElem?_getD, List.getElem?_eq_getElem hi] at this
  exact this

def Dsk.see (D : Dsk) (n : Int) : Sec := seen n D.pend (D.at n)
end Go.Proofs.Yticgkbpmaakkiaa

namespace Go.Proofs.Yticgkbpmaakkiaa
open Go.RowKit Go.Shelf

attribute [local go_sem] Oper.semAt_some

theorem putMark {w W : World} (hf : Fr Non w W) {D : Nat} (hD : w.heap.size ≤ D) (o : Obj) : Fr Non w (W.putObj D o) := hf.putObj D o (fun h => by omega)
theorem heap_putMark {W : World} {D : Nat} {o o' : Obj} (hK : W.heap[D]? = some o) {g : Nat} {cs : Array Value} {t : TypeId} (hg : W.heap[g]? = some (.cells cs t)) (ho : o.isCells = false) : (W.putObj D o').heap[g]? = some (.cells cs t) := by
  have : g ≠ D := by rintro rfl; rw [hK] at hg; cases hg; cases ho
  rw [World.putObj_heap_other (by omega)]; exact hg

set_option maxRecDepth 100000 in
set_option maxHeartbeats 1000000 in
theorem visible_c (w : World) (p m : Nat) (pv : Value) (D : Dsk) (n : Int) (h : DiskAt w p m pv D) (hl : D.pend.length ≤ 100000) :
    Calls Try.prog 38 #[.pointer (some ⟨p, 0, none⟩), .int .i64 n] w fun e w' => e = .returned (.agg (u8s (D.see n).1).toArray) ∧ Fr Non w w' := by
  obtain ⟨a, cap, rfl, hcap, hnil, hag⟩ := Own.shape (show Own w 82 257 wcells pv D.pend from h.hv)
  have hb1 : (w.alloc (.cells #[.int .i64 n] 3)).heap[w.heap.size]? = some (.cells #[.int .i64 n] 3) := heap_alloc_new w _
  generalize hw1 : w.alloc (.cells #[.int .i64 n] 3) = w1 at hb1
  have hs1 : w1.heap.size = w.heap.size + 1 := by rw [← hw1]; simp
  have hF1 : Fr Non w w1 := by rw [← hw1]; exact (Fr.refl _ w).alloc _
  have hb2 : (w1.alloc (.cells (u8s zeroSec.1).toArray 80)).heap[w1.heap.size]? = some (.cells (u8s zeroSec.1).toArray 80) := heap_alloc_new w1 _
  have hb12 : (w1.alloc (.cells (u8s zeroSec.1).toArray 80)).heap[w.heap.size]? = some (.cells #[.int .i64 n] 3) := ((Fr.refl Non w1).alloc _).keep hb1 (fun h => h)
  generalize hw2 : w1.alloc (.cells (u8s zeroSec.1).toArray 80) = w2 at hb2 hb12
  have hs2 : w2.heap.size = w.heap.size + 2 := by rw [← hw2]; simp [hs1]
  have hF2 : Fr Non w w2 := by rw [← hw2]; exact hF1.alloc _
  have h2 : DiskAt w2 p m (.slice a D.pend.length cap) D := h.fr hF2 (fun _ _ h => h)
  obtain ⟨c0, c1, c2, c3, c4, c5, c6⟩ := h2.cell
  have H := Lib.hid h
  have H2 := Lib.hid h2
  have HF2 := Lib.hid hF2
  have HB2 := Lib.hid hb2
  have HB12 := Lib.hid hb12
  have HS2 := Lib.hid hs2
  have HS1 := Lib.hid hs1
  clear h hF1 hb1 hF2 h2 c0 c1 c3 c4 c5 c6 hb2 hb12 hs2 hs1
  refine calls_marks Try.func38 rfl ?_
  simp only [Try.ntmps38, List.size_toArray, List.length_cons, List.length_nil, Nat.reduceAdd, Nat.reduceSub, Array.replicate_succ, Array.replicate_zero, List.push_toArray, List.append_toArray, List.nil_append, List.cons_append]
  go_wp2_with (first
    | (guard_target =~ wpList _ _ _ (⟨_, Op.box 3 _, _, _, _, _⟩ :: _) _ _; refine wl rfl (r_box (u := .int .i64 n) rfl rfl) ?_; simp only [Value.cells]; rw [hw1])
    | (guard_target =~ wpList _ _ _ (⟨_, Op.alloc 80, _, _, _, _⟩ :: _) _ _; refine wl rfl (r_allocA rfl (zero80 _)) ?_; rw [hw2])
    | (go_at_call 57; refine (Backward_c _ _ _ _).mono ?_; rintro e w3 ⟨rfl, rfl⟩)
    | fail)
  have hw3 : (w2.alloc (.cells #[.slice a D.pend.length cap] 76)).cell? ⟨w2.heap.size, 0, none⟩ = some (.slice a D.pend.length cap) := cellOf (heap_alloc_new w2 _) 0 rfl
  have h3F : Fr Non w (w2.alloc (.cells #[.slice a D.pend.length cap] 76)) := HF2.out.alloc _
  have h3b : (w2.alloc (.cells #[.slice a D.pend.length cap] 76)).heap[w.heap.size]? = some (.cells #[.int .i64 n] 3) := ((Fr.refl Non w2).alloc _).keep HB12.out (fun h => h)
  have h3z : (w2.alloc (.cells #[.slice a D.pend.length cap] 76)).heap[w1.heap.size]? = some (.cells (u8s zeroSec.1).toArray 80) := ((Fr.refl Non w2).alloc _).keep HB2.out (fun h => h)
  have h3s : (w2.alloc (.cells #[.slice a D.pend.length cap] 76)).heap.size = w.heap.size + 3 := by simp [HS2.out]
  have hsq : w2.heap.size < (w2.alloc (.cells #[.slice a D.pend.length cap] 76)).heap.size := by simp
  have hown : Own (w2.alloc (.cells #[.slice a D.pend.length cap] 76)) 82 257 wcells (.slice a D.pend.length cap) D.pend := H.out.fr h3F (fun _ _ h => h) |>.hv
  generalize hw3e : w2.alloc (.cells #[.slice a D.pend.length cap] 76) = w3 at hw3 h3F h3b h3z h3s hsq hown ⊢
  have hS1 := HS1.out
  refine wp_range rfl (enters_of Try.func66 (by kernel_rfl) rfl) (back_stops cap w2.heap.size a D.pend hl w3 hsq hw3 hown) (fun _ => rfl)
    (fun pre W => ((∀ y ∈ pre, y.2.1 ≠ n) ∧ W.heap[w.heap.size]? = some (.cells #[.int .i64 n] 3)) ∧ W.heap[w1.heap.size]? = some (.cells (u8s zeroSec.1).toArray 80) ∧ Fr Non w3 W)
    (fun c pre W => ((c = .ret ∧ ∃ ini last, pre = ini ++ [last] ∧ (∀ y ∈ ini, y.2.1 ≠ n) ∧ last.2.1 = n ∧ W.heap[w1.heap.size]? = some (.cells (u8s last.2.2.1).toArray 80)) ∧ Fr Non w W))
    ?hI ?hIx ?h0 (fun x a' W => ∃ g, W.heap[g]? = some (.cells (wcells x.2).toArray 82) ∧
      a' = { tmps := #[.pointer (some ⟨p, 0, none⟩), .int .i64 n, undef, .pointer (some ⟨w.heap.size, 0, none⟩), .pointer (some ⟨w1.heap.size, 0, none⟩), undef, .pointer (some ⟨g, 0, none⟩), .pointer (some ⟨p, 0, none⟩), .pointer (some ⟨p, 0, none⟩), .pointer (some ⟨p, 2, none⟩), .slice a D.pend.length cap, .func (.func 66) #[] #[.pointer (some ⟨w2.heap.size, 0, none⟩)], .int .i64 (x.1 : Int), .agg (wcells x.2).toArray, undef, undef, undef, undef, undef, undef, undef, undef, undef, undef, undef, undef] , defers := [] }) ?hAx ?assign ?body ?done ?stop
  case hI => exact OwnFrom.and (OwnFrom.and (ownFrom_true _) (ownFrom_cells (fun _ => w.heap.size) (fun _ => _) _)) (OwnFrom.and (ownFrom_cells (fun _ => w1.heap.size) (fun _ => _) _) (ownFrom_fr (Nat.le_refl _) (fun _ => Non)))
  case hIx =>
    refine fun c => OwnFrom.and ?_ (ownFrom_fr (by omega) (fun _ => Non))
    rintro pre W W' row ⟨rfl, ini, last, rfl, h1, h2, h3⟩ hg hr
    exact ⟨rfl, ini, last, rfl, h1, h2, ownFrom_cells (β := Unit) (B := w3.heap.size) (fun _ => w1.heap.size) (fun _ => _) _ () W W' row h3 hg hr⟩
  case h0 => exact ⟨⟨by simp, h3b⟩, h3z, Fr.refl _ _⟩
  case hAx =>
    rintro x a' u W W' row ⟨g, h1, rfl⟩ hg hr
    exact ⟨g, ownFrom_cells (β := Unit) (B := w3.heap.size) (fun _ => g) (fun _ => _) _ () W W' row h1 hg hr, rfl⟩
  case assign =>
    rintro l pre x W K ⟨⟨h1, h2⟩, h3, h4⟩ hK
    have hw := hK
    have HK := Lib.hid hw
    have h2' := Lib.hid h2
    have h3' := Lib.hid h3
    clear hw hK h2 h3 hS1
    simp only [encBack]
    gi_step
    gi_step
    go_simp
    refine wlIn rfl rfl (r_allocA rfl (zero82 _)) ?_; simp only [Act.put, List.setIfInBounds_toArray, List.set_cons_zero, List.set_cons_succ]
    refine wuIn rfl rfl (r_store_new (c' := (wcells x.2).toArray) rfl rfl rfl (by simp [sz82, wcells_length]) (by simp [wcells_length, sec_len]) (all_oneCell_toArray (wcells_one x.2))) ?_
    gi_wp2
    have hg := heap_alloc_new W (.cells (wcells x.2).toArray 82)
    have hF : Fr Non W (W.alloc (.cells (wcells x.2).toArray 82)) := (Fr.refl Non W).alloc _
    exact HK.out _ _ (keepsFrom_fr hF (fun _ h => h.elim)) (hF.below h4.size (fun _ _ h => h)) ⟨⟨h1, hF.keep h2'.out (fun h => h)⟩, hF.keep h3'.out (fun h => h), h4.trans hF (fun _ _ h => h)⟩ ⟨_, hg, rfl⟩
  case body =>
    rintro l pre x a' W hl1 - ⟨⟨h1, h2⟩, h3, h4⟩ ⟨g, hg, rfl⟩ -
    have hgc : W.cell? ⟨g, 0, none⟩ = some (.int .i64 x.2.1) := cellOf hg 0 (by simp [wcells])
    have hnc : W.cell? ⟨w.heap.size, 0, none⟩ = some (.int .i64 n) := cellOf h2 0 rfl
    have hgr : W.rangeAt g 1 (u8s x.2.2.1) := rangeAt_of hg 1 _ (fun j v hv => by simpa [wcells, Nat.add_comm 1 j] using hv)
    have hth : W.there w1.heap.size 0 256 := there_of h3 0 256 (by simp [sec_len])
    have hst : (W.setCells w1.heap.size 0 (u8s x.2.2.1)).heap[w1.heap.size]? = some (.cells (u8s x.2.2.1).toArray 80) := by
      rw [heap_setCells (u8s x.2.2.1) 0 _ W h3 (by simp [sec_len])]
      simp [sec_len]
    have hFs : Fr (· = w1.heap.size) W (W.setCells w1.heap.size 0 (u8s x.2.2.1)) := Fr.setCells (S := (· = w1.heap.size)) _ (fun _ => rfl) _ _ _ (Fr.refl _ W)
    have HGR := Lib.hid hgr
    have HTH := Lib.hid hth
    have HST := Lib.hid hst
    have HFS := Lib.hid hFs
    have HX1 := Lib.hid h1
    have H24 := Lib.hid (And.intro h2 (And.intro h3 h4))
    have H3F := Lib.hid h3F
    clear hgr hth hst hFs h1 h2 h3 h4 hg hS1 h3F h3b h3z h3s hw3 hsq hown
    gi_wp2_with (first
      | (guard_target =~ wpListIn _ _ _ _ _ (⟨_, Op.load 80 _, _, _, _, _⟩ :: _) _ _; refine wlIn rfl rfl (r_load (b := g) (i := 1) rfl rfl HGR.out Try.underlying80 rfl (by rw [sz80, sec_len])) ?_)
      | (guard_target =~ wpListIn _ _ _ _ _ (⟨_, Op.store 80 _ _, _, _, _, _⟩ :: _) _ _; refine wuIn rfl rfl (r_store (b := w1.heap.size) (i := 0) (cs := u8s x.2.2.1) rfl rfl rfl (by rw [sec_len]; exact HTH.out) (by rw [sz80, sec_len]) (u8s_one _)) ?_)
      | fail)
    · rename_i hx
      simp only [beq_iff_eq] at hx
      exact ⟨keepsFrom_fr HFS.out (fun j hj => by cases hj; exact .inr ⟨_, _, _, H24.out.2.1⟩), ⟨rfl, pre, x, rfl, HX1.out, hx, HST.out⟩, ((H3F.out).trans H24.out.2.2 (fun _ _ h => h)).trans HFS.out (fun i hi e => by rw [e, HS1.out] at hi; omega)⟩
    · rename_i hx
      simp only [beq_eq_false_iff_ne] at hx
      exact ⟨KeepsFrom.refl _ _, Below.refl _ _, ⟨⟨fun y hy => (List.mem_append.1 hy).elim (HX1.out y) (fun e => by rw [List.mem_singleton.1 e]; exact hx), H24.out.1⟩, H24.out.2⟩⟩
  case done =>
    rintro K xs W hK rfl ⟨⟨h1, h2⟩, h3, h4⟩ hKd
    have hW : DiskAt W p m (.slice a D.pend.length cap) D := H.out.fr (h3F.trans h4 (fun _ _ h => h)) (fun _ _ h => h)
    have hlk := lookup75 (hW.drewN 1) n
    have hnc : W.cell? ⟨w.heap.size, 0, none⟩ = some (.int .i64 n) := cellOf h2 0 rfl
    obtain ⟨c0, c1, c2, c3, c4, c5, c6⟩ := hW.cell
    have hth : W.drew.there w1.heap.size 0 256 := there_of (w := W.drew) h3 0 256 (by simp [sec_len])
    have hsa := seen_all n D.pend (D.at n) h1
    have hst : (W.drew.setCells w1.heap.size 0 (u8s (D.at n).1)).heap[w1.heap.size]? = some (.cells (u8s (D.at n).1).toArray 80) := by
      rw [heap_setCells (u8s (D.at n).1) 0 _ W.drew h3 (by simp [sec_len])]
      simp [sec_len]
    have hFs : Fr Non w (W.drew.setCells w1.heap.size 0 (u8s (D.at n).1)) := Fr.setCells _ (fun h => by rw [hS1] at h; omega) _ _ _ (((h3F.trans h4 (fun _ _ h => h))).drew)
    have hkd : (W.drew.setCells w1.heap.size 0 (u8s (D.at n).1)).heap[K]? = some (.deferred (some [])) := by
      rw [heap_setCells_other K (by rw [hS1]; omega)]
      exact hKd
    have HFS := Lib.hid hFs
    have HST := Lib.hid hst
    have HSA := Lib.hid hsa
    have HTH := Lib.hid hth
    have HKD := Lib.hid hkd
    have HK := Lib.hid hK
    have H3S := Lib.hid h3s
    clear hW h1 h2 h3 h4 hKd c0 c2 c3 c4 c5 c6 hst hFs hsa hth hS1 h3s h3F h3b h3z hw3 hsq hown hkd hK
    go_wp2_with fail
    refine rt 5 (by kernel_rfl) (by kernel_rfl) ?_
    simp only [List.take_succ_cons, List.take_zero, List.drop_succ_cons, List.drop_zero]
    iterate 5 still_step
    refine ws_nil ?_
    refine wl rfl (r_lookup rfl rfl rfl hlk) ?_
    simp only [Act.put, List.setIfInBounds_toArray, List.set_cons_zero, List.set_cons_succ]
    refine wu rfl (r_store (b := w1.heap.size) (i := 0) (cs := u8s (D.at n).1) rfl rfl rfl (by rw [sec_len]; exact HTH.out) (by rw [sz80, sec_len]) (u8s_one _)) ?_
    go_wp2
    have hsee : D.see n = D.at n := HSA.out
    rw [hsee]
    refine ret_mark HKD.out (results_cell_row rfl _ _ w1.heap.size 80 (u8s (D.at n).1).toArray (0, 0) _ rfl (heap_putMark HKD.out HST.out rfl) Try.underlying80 rfl (by rw [sz80]; simp [sec_len])) ⟨rfl, putMark HFS.out (by have := HK.out; have := H3S.out; omega) _⟩
  case stop =>
    rintro K c pre W hK ⟨k, hk, rfl⟩ ⟨⟨rfl, ini, last, e1, h1, h2, h3⟩, h4⟩ hKd
    obtain ⟨k', rfl⟩ : ∃ k', k = k' + 1 := by
      cases k with
      | zero => exact absurd e1 (by simp [backL])
      | succ k' => exact ⟨k', rfl⟩
    rw [backL_succ] at e1
    obtain ⟨rfl, e5⟩ := List.append_inj' e1 rfl
    obtain rfl : (_, _) = last := by simpa using e5
    have hsee : D.see n = (D.pend.getD (D.pend.length - 1 - k') (0, zeroSec)).2 := by
      refine seen_at n D.pend (D.at n) k' (by omega) (fun t ht => ?_) h2
      exact h1 _ (List.mem_map.2 ⟨t, List.mem_range.2 ht, rfl⟩)
    have HSEE := Lib.hid hsee
    have H3 := Lib.hid h3
    have H4 := Lib.hid h4
    have HKD := Lib.hid hKd
    have HK := Lib.hid hK
    have H3S := Lib.hid h3s
    clear hsee h1 h2 h3 h4 hKd hK hS1 h3s h3F h3b h3z hw3 hsq hown e1 e5
    go_wp2
    rw [HSEE.out]
    refine ret_mark HKD.out (results_cell_row rfl _ _ w1.heap.size 80 _ (0, 0) _ rfl (heap_putMark HKD.out H3.out rfl) Try.underlying80 rfl (by rw [sz80]; simp [sec_len])) ⟨rfl, putMark H4.out (by have := HK.out; have := H3S.out; omega) _⟩
end Go.Proofs.Yticgkbpmaakkiaa
