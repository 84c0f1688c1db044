import Derived.Test.YticgkbpmaakkiaaDk7
import Derived.Test.YticgkbpmaakkiaaRng
import Derived.RangeFuncBox
namespace Go.Proofs.Yticgkbpmaakkiaa
open Go.RowKit Go.Shelf

attribute [local go_sem] Oper.semAt_some

/-- What slices.Backward hands over: the elements from the last one on, each with its index. -/
def backL (l : List (Int × Sec)) (j : Nat) : List (Nat × (Int × Sec)) := (List.range j).map fun t => (l.length - 1 - t, l.getD (l.length - 1 - t) (0, zeroSec))
theorem backL_succ (l : List (Int × Sec)) (j : Nat) : backL l (j + 1) = backL l j ++ [(l.length - 1 - j, l.getD (l.length - 1 - j) (0, zeroSec))] := by simp [backL, List.range_succ]
theorem backL_length (l : List (Int × Sec)) (j : Nat) : (backL l j).length = j := by simp [backL]

def encBack (x : Nat × (Int × Sec)) : Array Value := #[.int .i64 (x.1 : Int), .agg (wcells x.2).toArray]

set_option maxRecDepth 100000 in
set_option maxHeartbeats 1000000 in
theorem back_in (l Bs n₀ b cap : Nat) (xs : List (Int × Sec)) (hlen : xs.length ≤ 100000) (hb : b < n₀) (hBs0 : Bs < n₀) (J Jx : List (Nat × (Int × Sec)) → World → Prop)
    (hY : ∀ pre x W, J pre W → pre.length < xs.length → YieldAt Fence.wide (2 - 1) Try.prog l (encBack x) W fun e W' =>
      (e = .returned (.bool true) ∧ J (pre ++ [x]) W' ∧ Below n₀ W W') ∨ (e = .returned (.bool false) ∧ Jx (pre ++ [x]) W'))
    (W : World) (hBs : W.cell? ⟨Bs, 0, none⟩ = some (.slice (some ⟨b, 0, none⟩) xs.length cap)) (hc : Own W 82 257 wcells (.slice (some ⟨b, 0, none⟩) xs.length cap) xs) (h0 : J [] W) :
    CallsIn Fence.wide 2 Try.prog 66 #[.func (.yield l) #[] #[], .pointer (some ⟨Bs, 0, none⟩)] W fun e W' => (∃ v, e = .returned v) ∧
      ((∃ ys, ys = backL xs xs.length ∧ J ys W') ∨ (∃ pre, (∃ k, k ≤ xs.length ∧ pre = backL xs k) ∧ Jx pre W')) := by
  refine callsIn_of_wp Try.func66 rfl trivial ?_ rfl
  simp only [Try.ntmps66, List.size_toArray, List.length_cons, List.length_nil, Nat.reduceAdd, Nat.reduceSub, Array.replicate_succ, Array.replicate_zero, List.push_toArray, List.append_toArray, List.nil_append, List.cons_append]
  have HC := Lib.hid hc
  clear hc
  gi_wp2
  gi_loopw [3] (fun i wr => ((∃ k : Nat, k < xs.length ∧ i = .int .i64 k ∧ J (backL xs (xs.length - 1 - k)) wr) ∨ (i = .int .i64 (-1) ∧ J (backL xs xs.length) wr)) ∧ Below n₀ W wr)
    (fun i _ => (intOf i + 1).toNat)
  case atStart =>
    refine ⟨?_, Below.refl _ _⟩
    by_cases h : xs.length = 0
    · exact .inr ⟨by rw [h]; rfl, by rw [h]; exact h0⟩
    · exact .inl ⟨xs.length - 1, by omega, by go_num, by rw [Nat.sub_self]; exact h0⟩
  case round =>
    obtain ⟨⟨k, hk, rfl, hJs⟩ | ⟨rfl, hJs⟩, hnx⟩ := hrel
    · have hx : xs[k]? = some (xs.getD k (0, zeroSec)) := by rw [List.getD_eq_getElem?_getD, List.getElem?_eq_getElem hk]; rfl
      generalize hxk : xs.getD k (0, zeroSec) = x at hx
      have hr : wr.rangeAt b (k * 257) (wcells x) := fun j u hu => (hnx.cell (p := ⟨b, k * 257 + j, none⟩) hb).trans (Own.elem elem82 HC.out hx j u hu)
      have hBs' := (hnx.cell (p := ⟨Bs, 0, none⟩) hBs0).trans hBs
      have hback : backL xs (xs.length - 1 - k) ++ [(k, x)] = backL xs (xs.length - 1 - k + 1) := by
        rw [backL_succ, show xs.length - 1 - (xs.length - 1 - k) = k by omega, hxk]
      have HR := Lib.hid hr
      have HX := Lib.hid hxk
      have HB := Lib.hid hback
      clear hr hx hxk hback
      obtain ⟨fn, tmps, assign, body, hy, hR⟩ := hY _ (k, x) wr hJs (by rw [backL_length]; omega)
      simp only [encBack] at hy
      gi_wp2_with (first
        | (guard_target =~ wpListIn _ _ _ _ _ (⟨_, Op.load 82 _, _, _, _, _⟩ :: _) _ _; refine wlIn rfl rfl (r_load (b := b) (i := k * 257) rfl rfl HR.out Try.underlying82 rfl (by rw [sz82, wcells_length])) ?_)
        | fail)
      refine hR.mono ?_
      rintro e W3 (⟨rfl, hJ3, hk3⟩ | ⟨rfl, hJx3⟩)
      · gi_wp2
        go_roundw
        case rel =>
          refine ⟨?_, hnx.trans hk3⟩
          rw [HB.out] at hJ3
          by_cases h : k = 0
          · subst h
            exact .inr ⟨by simp, by rw [show xs.length - 1 - 0 + 1 = xs.length by omega] at hJ3; exact hJ3⟩
          · exact .inl ⟨k - 1, by omega, by go_num, by rw [show xs.length - 1 - (k - 1) = xs.length - 1 - k + 1 by omega]; exact hJ3⟩
        case measure => simp [intOf] <;> omega
      · gi_wp2
        refine bodyPost_ret (results_none rfl _ _ _) rfl ?_
        rw [HB.out] at hJx3
        exact ⟨⟨_, rfl⟩, .inr ⟨_, ⟨xs.length - 1 - k + 1, by omega, rfl⟩, hJx3⟩⟩
    · gi_wp2
      go_end0
      exact ⟨⟨_, rfl⟩, .inl ⟨_, rfl, hJs⟩⟩

set_option maxRecDepth 100000 in
set_option maxHeartbeats 1000000 in
theorem back_nil_in (l Bs : Nat) (J : List (Nat × (Int × Sec)) → World → Prop) (W : World) (hBs : W.cell? ⟨Bs, 0, none⟩ = some (.slice none 0 0)) (h0 : J [] W) :
    CallsIn Fence.wide 2 Try.prog 66 #[.func (.yield l) #[] #[], .pointer (some ⟨Bs, 0, none⟩)] W fun e W' => (∃ v, e = .returned v) ∧ J [] W' := by
  refine callsIn_of_wp Try.func66 rfl trivial ?_ rfl
  simp only [Try.ntmps66, List.size_toArray, List.length_cons, List.length_nil, Nat.reduceAdd, Nat.reduceSub, Array.replicate_succ, Array.replicate_zero, List.push_toArray, List.append_toArray, List.nil_append, List.cons_append]
  gi_wp2
  gi_loopw [3] (fun i wr => i = .int .i64 (-1) ∧ J [] wr) (fun _ _ => 0)
  case atStart => exact ⟨by go_num, h0⟩
  case round =>
    obtain ⟨rfl, hJs⟩ := hrel
    gi_wp2
    go_end0
    exact ⟨⟨_, rfl⟩, hJs⟩

set_option maxRecDepth 100000 in
theorem Backward_c (w : World) (a : Option Addr) (len cap : Nat) :
    Calls Try.prog 57 #[.slice a len cap] w fun e w' => e = .returned (.func (.func 66) #[] #[.pointer (some ⟨w.heap.size, 0, none⟩)]) ∧ w' = w.alloc (.cells #[.slice a len cap] 76) := by
  go_enter Try.func57, Try.ntmps57
  go_wp2
  go_ret
  exact ⟨rfl, rfl⟩

theorem back_stops (cap Bs : Nat) (a : Option Addr) (xs : List (Int × Sec)) (hlen : xs.length ≤ 100000) (w : World) (hBs : Bs < w.heap.size)
    (hc : w.cell? ⟨Bs, 0, none⟩ = some (.slice a xs.length cap)) (hI : Own w 82 257 wcells (.slice a xs.length cap) xs) :
    SeqStopsK Fence.wide 2 Try.prog 66 #[.pointer (some ⟨Bs, 0, none⟩)] encBack (Below w.heap.size) (fun ys => ys = backL xs xs.length) (fun pre => ∃ k, k ≤ xs.length ∧ pre = backL xs k) xs.length w := fun l J Jx W hW _ _ hY h0 => by
  have hc' := (hW.cell (p := ⟨Bs, 0, none⟩) hBs).trans hc
  obtain ⟨a', cap', hv, -, hnil, hag⟩ := Own.shape hI
  cases hv
  have hF : Fr Non w W := Fr.of_new hW _
  cases a with
  | none =>
    have h0' := hnil rfl
    subst h0'
    have : cap = 0 := by rcases hI.2 with ⟨hh, _⟩ | ⟨g, cap', cur, hv, _⟩; exact (by cases hh; rfl); cases hv
    subst this
    exact (back_nil_in l Bs J W hc' h0).mono fun e W' ⟨he, hj⟩ => ⟨he, .inl ⟨_, rfl, hj⟩⟩
  | some ad =>
    obtain ⟨b, rfl⟩ := hag ad rfl
    have hb : b < w.heap.size := Own.lt hI rfl
    exact back_in l Bs w.heap.size b cap xs hlen hb hBs J Jx hY W hc' (hI.fr hF (fun _ _ h => h)) h0

/-! ### what a sector shows -/
def seen (n : Int) (l : List (Int × Sec)) (s : Sec) : Sec := l.foldl (fun s x => if x.1 = n then x.2 else s) s
theorem seen_none (n : Int) : ∀ (l : List (Int × Sec)) (s : Sec), (∀ x ∈ l, x.1 ≠ n) → seen n l s = s
  | [], _, _ => rfl
  | x :: r, s, h => by
    show seen n r (if x.1 = n then x.2 else s) = s
    rw [if_neg (h x (List.mem_cons_self ..))]
    exact seen_none n r s (fun y hy => h y (List.mem_cons_of_mem _ hy))
theorem seen_append (n : Int) (a b : List (Int × Sec)) (s : Sec) : seen n (a ++ b) s = seen n b (seen n a s) := List.foldl_append ..
theorem seen_at (n : Int) (xs : List (Int × Sec)) (s : Sec) (k : Nat) (hk : k < xs.length) (h1 : ∀ t, t < k → (xs.getD (xs.length - 1 - t) (0, zeroSec)).1 ≠ n) (h2 : (xs.getD (xs.length - 1 - k) (0, zeroSec)).1 = n) :
    seen n xs s = (xs.getD (xs.length - 1 - k) (0, zeroSec)).2 := by
  have hj : xs.length - 1 - k < xs.length := by omega
  have e : xs = xs.take (xs.length - 1 - k) ++ xs.getD (xs.length - 1 - k) (0, zeroSec) :: xs.drop (xs.length - 1 - k + 1) := by
    rw [List.getD_eq_getElem?_getD, List.getElem?_eq_getElem hj, Option.getD_some, List.getElem_cons_drop, List.take_append_drop]
  rw [show seen n xs s = seen n (xs.take (xs.length - 1 - k) ++ xs.getD (xs.length - 1 - k) (0, zeroSec) :: xs.drop (xs.length - 1 - k + 1)) s by rw [← e]]
  rw [seen_append]
  show seen n (xs.drop _) (if _ then _ else _) = _
  rw [if_pos h2, seen_none]
  intro x hx
  obtain ⟨i, hi, rfl⟩ := List.mem_iff_getElem.1 hx
  rw [List.length_drop] at hi
  have := h1 (xs.length - 1 - (xs.length - 1 - k + 1 + i)) (by omega)
  rw [show xs.length - 1 - (xs.length - 1 - (xs.length - 1 - k + 1 + i)) = xs.length - 1 - k + 1 + i by omega, List.getD_eq_getElem?_getD, List.getElem?_eq_getElem (by omega)] at this
  rw [List.getElem_drop]
  exact this
theorem seen_all (n : Int) (xs : List (Int × Sec)) (s : Sec) (h : ∀ y ∈ backL xs xs.length, y.2.1 ≠ n) : seen n xs s = s := by
  refine seen_none n xs s fun x hx => ?_
  obtain ⟨i, hi, rfl⟩ := List.mem_iff_getElem.1 hx
  have := h (i, xs.getD i (0, zeroSec)) (by
    refine List.mem_map.2 ⟨xs.length - 1 - i, List.mem_range.2 (by omega), ?_⟩
    rw [show xs.length - 1 - (xs.length - 1 - i) = i by omega])
  rw [List.getD_eq_getElem?_getD, List.getElem?_eq_getElem hi] at this
  exact this

def Dsk.see (D : Dsk) (n : Int) : Sec := seen n D.pend (D.at n)
end Go.Proofs.Yticgkbpmaakkiaa
