/-
  Sparse's iterator as a sequence; the reference's Sparse.
-/
import Derived.Test.YticgkbpmaakkiaaDmAq
namespace Go.Proofs.Yticgkbpmaakkiaa
open Go.RowKit Go.Shelf

attribute [local go_sem] Oper.semAt_some

set_option maxRecDepth 100000 in
theorem sparse_down_in (l Bs p m : Nat) (pv : Value) (D : Dsk) (W : World) (hB : W.cell? ⟨Bs, 0, none⟩ = some (.pointer (some ⟨p, 0, none⟩))) (hd : DiskAt W p m pv D) (hdn : D.down = true) :
    CallsIn Fence.wide 2 Try.prog 54 #[.func (.yield l) #[] #[], .pointer (some ⟨Bs, 0, none⟩)] W fun e W' => (∃ v, e = .returned v) ∧ W = W' := by
  obtain ⟨c0, c1, c2, c3, c4, c5, c6⟩ := hd.cell
  rw [hdn] at c6
  clear hd c0 c1 c2 c3 c4 c5
  refine callsIn_of_wp Try.func54 rfl trivial ?_ rfl
  simp only [Try.ntmps54, List.size_toArray, List.length_cons, List.length_nil, Nat.reduceAdd, Nat.reduceSub, Array.replicate_succ, Array.replicate_zero, List.push_toArray, List.append_toArray, List.nil_append, List.cons_append]
  gi_wp2
  refine bodyPost_ret (results_none rfl _ _ _) rfl ?_
  exact ⟨⟨_, rfl⟩, rfl⟩

theorem keys_len {D : Dsk} (hD : Dok D) (hC : Clean D) {dl : List (Int × Sec)} (hn : (dl.map (·.1)).Nodup) (hg : ∀ k, D.dur k = aget k dl) : dl.length ≤ 4096 := by
  have h := nodup_len (dl.map (·.1)) ((List.range 4096).map fun i : Nat => (i : Int)) hn (fun x hx => by
    cases hk : aget x dl with
    | none => exact absurd hx (aget_none.1 hk)
    | some s =>
      have := hC x s (by rw [hg]; exact hk)
      have := hD.n1
      exact List.mem_map.2 ⟨x.toNat, List.mem_range.2 (by omega), by omega⟩)
  simpa using h

theorem sparse_stops (Bs p m : Nat) (pv : Value) (D : Dsk) (S : Nat → Prop) (hD : Dok D) (hC : Clean D) (w : World) (hBs : Bs < w.heap.size) (t : TypeId) (hB : w.heap[Bs]? = some (.cells #[.pointer (some ⟨p, 0, none⟩)] t)) (hd : DiskAt w p m pv D)
    (hS : ∀ k, S k → k < w.heap.size ∧ ¬ Foot p m pv k ∧ k ≠ Bs) :
    SeqStopsK Fence.wide 2 Try.prog 54 #[.pointer (some ⟨Bs, 0, none⟩)] (fun n : Int => #[.int .i64 n]) (KpS S) (fun xs => xs = sparseL D) (fun pre => ∃ k, k ≤ (sparseL D).length ∧ pre = (sparseL D).take k) (sparseL D).length w := fun l J Jx W hW hJ _ hY h0 => by
  have hF : Fr Non w W := Fr.of_new hW _
  have hB' := hF.keep hB (fun h => h)
  have hd' := hd.fr hF (fun _ _ h => h)
  cases hdn : D.down with
  | true =>
    refine (sparse_down_in l Bs p m pv D W (cellOf hB' 0 rfl) hd' hdn).mono fun e W' ⟨he, hw⟩ => ⟨he, .inl ⟨_, rfl, ?_⟩⟩
    unfold sparseL
    rw [hdn, if_pos rfl, ← hw]; exact h0
  | false =>
    obtain ⟨dl, hdl, hg⟩ := hd'.hm
    exact sparse_in l Bs p m pv D S hD hC J Jx W (cellOf hB' 0 rfl) hd' hdn (fun k hk => ⟨Nat.lt_of_lt_of_le (hS k hk).1 hW.size, (hS k hk).2⟩) dl hdl hg (Nat.le_trans (keys_len hD hC hdl.nodup hg) (by omega)) hJ ⟨t, hB'⟩ hY h0

/-! ### the reference's -/
def upTo (D : Dsk) (k : Nat) : List Int := ((List.range k).map fun i : Nat => (i : Int)).filter (vis D)
theorem upTo_succ (D : Dsk) (k : Nat) : upTo D (k + 1) = upTo D k ++ (if vis D k = true then [(k : Int)] else []) := by
  unfold upTo
  rw [List.range_succ, List.map_append, List.filter_append]
  congr 1
  by_cases h : vis D k = true <;> simp [h]
theorem upTo_len (D : Dsk) (k : Nat) : (upTo D k).length ≤ k := by
  unfold upTo
  have := List.length_filter_le (vis D) ((List.range k).map fun i : Nat => (i : Int))
  simpa using this
def zr (l : List UInt8) (q : Nat) : Bool := (l.take q).all (· == 0)
theorem zr_succ {l : List UInt8} {q : Nat} {b : UInt8} (h : l[q]? = some b) : zr l (q + 1) = (zr l q && (b == 0)) := by
  unfold zr
  rw [List.take_add_one, h, List.all_append]
  simp
theorem zr_all (s : Sec) : zr s.1 256 = decide (s = zeroSec) := by
  unfold zr
  rw [List.take_of_length_le (by rw [s.2]; exact Nat.le_refl _)]
  by_cases h : s = zeroSec
  · rw [decide_eq_true h, h]
    show (List.replicate 256 (0 : UInt8)).all (· == 0) = true
    rw [List.all_eq_true]
    intro x hx
    rw [(List.mem_replicate.1 hx).2]; rfl
  · rw [decide_eq_false h]
    rw [List.all_eq_false]
    refine Classical.byContradiction fun hn => h (Subtype.ext ?_)
    show s.1 = List.replicate 256 0
    refine List.eq_replicate_iff.2 ⟨s.2, fun x hx => ?_⟩
    refine Classical.byContradiction fun hne => hn ⟨x, hx, by simpa using hne⟩

theorem zero3 (w : World) : (zeroValue 3).run Try.prog w = .ok (.int .i64 0) w := (zero_of_info (show (Try.prog.info? 3).map (fun i => (i.zero, i.size)) = some (some (.int .i64 0), 1) from by kernel_rfl)).1 w
theorem buildSlice68_one (w : World) (x : Int) : (Instr.buildSlice 68 1 #[(0, .int .i64 x)]).run Try.prog w = .ok (.slice (some ⟨w.heap.size, 0, none⟩) 1 1) (w.alloc (.cells (intE x).toArray 3)) := by
  have := run_buildSlice_all (P := Try.prog) (w := w) (t := 68) (e := 3) (s := 1) (vs := [.int .i64 x]) Try.underlying68 (by kernel_rfl) (zero3 w) (by intro v hv; rw [List.mem_singleton.1 hv]; rfl) (by simp)
  exact this

def SpTo (w w' : World) (e : Ending) (D : Dsk) : Prop := ∃ a c, e = .returned (.slice a (sparseL D).length c) ∧ Own w' 3 1 intE (.slice a (sparseL D).length c) (sparseL D) ∧ Fr Non w w'

set_option maxRecDepth 100000 in
set_option maxHeartbeats 2000000 in
theorem RSparse_c (w : World) (dv wv : Value) (D : Dsk) (hD : Dok D) (h : RefAt w dv wv D) :
    Calls Try.prog 33 #[.agg (refL dv wv D).toArray] w fun e w' => SpTo w w' e D := by
  obtain ⟨ss, ys, h⟩ := h
  obtain ⟨gd, cd, rfl, -⟩ := h.dvAt hD.n0
  have hb1 := heap_alloc_new w (.cells (refL (.slice (some ⟨gd, 0, none⟩) ss.length cd) wv D).toArray 45)
  have hF1 : Fr Non w (w.alloc (.cells (refL (.slice (some ⟨gd, 0, none⟩) ss.length cd) wv D).toArray 45)) := (Fr.refl _ w).alloc _
  obtain ⟨w1, hw1⟩ : ∃ w1, w.alloc (.cells (refL (.slice (some ⟨gd, 0, none⟩) ss.length cd) wv D).toArray 45) = w1 := ⟨_, rfl⟩
  rw [hw1] at hb1 hF1
  have hn := h.nd
  have hn1 := hD.n1
  have hn0 := hD.n0
  have HB1 := Lib.hid hb1
  have HF1 := Lib.hid hF1
  have HN := Lib.hid (And.intro hn (And.intro hn0 hn1))
  have HR : Hid (RefAt w1 (.slice (some ⟨gd, 0, none⟩) ss.length cd) wv D) := ⟨ss, ys, h.non hF1⟩
  have HD := Lib.hid hD
  have HA0 : Hid (∀ W, Fr Non w1 W → W.cell? ⟨w.heap.size, 0, none⟩ = some (.slice (some ⟨gd, 0, none⟩) ss.length cd)) := fun W hW => hW.cell (cellOf hb1 0 rfl) (fun h => h)
  have HA3 : Hid (∀ W, Fr Non w1 W → W.cell? ⟨w.heap.size, 3, none⟩ = some (.bool D.down)) := fun W hW => hW.cell (cellOf hb1 3 rfl) (fun h => h)
  have HLD : Hid (∀ W, Fr Non w1 W → W.rangeAt w.heap.size 0 (refL (.slice (some ⟨gd, 0, none⟩) ss.length cd) wv D)) := fun W hW => rangeAt_of (hW.keep hb1 (fun h => h)) 0 _ (by simp)
  have hsl : (ss.length : Int) ≤ 4096 := by omega
  have hsp : (0 : Int) < ss.length := by omega
  clear h hb1 hF1 hn hn1 hn0 hD
  cases hdn : D.down with
  | true =>
    rw [hdn] at HA3
    have a0 := HA0.out w1 (Fr.refl _ _)
    have a3 := HA3.out w1 (Fr.refl _ _)
    have HE : Hid (sparseL D = []) := by unfold sparseL; rw [hdn, if_pos rfl]; exact Lib.hid rfl
    clear hdn
    go_enter Try.func33, Try.ntmps33
    go_wp2_with (first
      | (guard_target =~ wpList _ _ _ (⟨_, Op.box 45 _, _, _, _, _⟩ :: _) _ _; refine wl rfl (r_boxA rfl rfl) ?_; rw [hw1]; simp only [Act.put, List.setIfInBounds_toArray, List.set_cons_zero, List.set_cons_succ])
      | fail)
    go_loopw [3, 4] (fun v i wr => v = .slice none 0 0 ∧ i = .int .i64 0 ∧ w1 = wr) (fun _ _ _ => 0)
    case atStart => exact ⟨rfl, rfl, rfl⟩
    case round =>
      obtain ⟨rfl, rfl, rfl⟩ := hrel
      go_wp2_with fail
      go_ret
      unfold SpTo
      rw [HE.out]
      exact ⟨none, 0, rfl, Own.nil _ _ _ _, HF1.out⟩
  | false =>
    rw [hdn] at HA3
    have HE : Hid (sparseL D = upTo D ss.length) := by
      have h1 := HN.out.1
      have h2 : D.n.toNat = ss.length := by omega
      unfold sparseL upTo
      rw [hdn, if_neg (by simp), h2]
      exact Lib.hid rfl
    have HDN := Lib.hid hdn
    clear hdn
    go_enter Try.func33, Try.ntmps33
    go_wp2_with (first
      | (guard_target =~ wpList _ _ _ (⟨_, Op.box 45 _, _, _, _, _⟩ :: _) _ _; refine wl rfl (r_boxA rfl rfl) ?_; rw [hw1]; simp only [Act.put, List.setIfInBounds_toArray, List.set_cons_zero, List.set_cons_succ])
      | fail)
    go_loopw [3, 4] (fun v i wr => ∃ k : Nat, i = .int .i64 k ∧ k ≤ ss.length ∧ Own wr 3 1 intE v (upTo D k) ∧ (∀ b, v.ownBlock = some b → w1.heap.size ≤ b) ∧ Fr Non w1 wr) (fun _ i _ => ss.length - (intOf i).toNat)
    case atStart => exact ⟨0, rfl, Nat.zero_le _, Own.nil _ _ _ _, (fun b h => by cases h), Fr.refl _ _⟩
    case round =>
      obtain ⟨k, rfl, hk, hv, hvb, hF⟩ := hrel
      have a0 := HA0.out wr hF
      have a3 := HA3.out wr hF
      have HV := Lib.hid hv
      have HVB := Lib.hid hvb
      have HF := Lib.hid hF
      clear hv hvb hF
      obtain ⟨va, vc, rfl, -, -, -⟩ := Own.shape HV.out
      by_cases hlt : k < ss.length
      · have hlt' : (k : Int) < (ss.length : Int) := by omega
        have HLT := Lib.hid hlt
        have hkn : (k : Int) < D.n := by have := HN.out; omega
        have HVI := Lib.hid (Visible_ref wr (.slice (some ⟨gd, 0, none⟩) ss.length cd) wv D k HD.out hkn (HR.out.non HF.out))
        clear hlt hkn
        go_wp2_with (first
          | (guard_target =~ wpList _ _ _ (⟨_, Op.load 45 _, _, _, _, _⟩ :: _) _ _; refine wl rfl (r_load (b := w.heap.size) (i := 0) rfl rfl (HLD.out wr HF.out) Try.underlying45 rfl (by rw [sz45]; rfl)) ?_; simp only [Act.put, List.setIfInBounds_toArray, List.set_cons_zero, List.set_cons_succ])
          | (go_at_call 27; refine HVI.out.mono ?_; rintro e w5 ⟨g5, c5, rfl, ho5, hF5, hg5⟩; have HO5 := Lib.hid ho5; have HF5 := Lib.hid hF5; clear ho5 hF5 hg5)
          | fail)
        clear a0 a3
        obtain ⟨sec, hsec⟩ : ∃ s, D.see k = s := ⟨_, rfl⟩
        have HSEC := Lib.hid hsec
        rw [hsec] at HO5
        clear hsec
        have hcell : ∀ (q : Nat) (b : UInt8), sec.1[q]? = some b → w5.cell? ⟨g5, q, none⟩ = some (.int .u8 b.toNat) := fun q b hq => by
          have := Own.elem elem5 (show Own w5 5 1 _ _ sec.1 from HO5.out) hq 0 _ rfl
          simpa using this
        have HC := Lib.hid hcell
        clear hcell
        go_loop [6, 7] (fun z j => ∃ q : Nat, j = .int .i64 q ∧ q ≤ 256 ∧ z = .bool (zr sec.1 q)) (fun _ j => 256 - (intOf j).toNat)
        case atStart => exact ⟨0, rfl, Nat.zero_le _, rfl⟩
        case round =>
          obtain ⟨q, rfl, hq, rfl⟩ := hrel
          by_cases hlt : q < 256
          · obtain ⟨b, hb⟩ : ∃ b, sec.1[q]? = some b := ⟨_, List.getElem?_eq_getElem (by rw [sec.2]; exact hlt)⟩
            have hbc := HC.out q b hb
            have hzs := zr_succ hb
            clear hb
            cases hz : zr sec.1 q with
            | true =>
              rw [hz, Bool.true_and] at hzs
              have HZS := Lib.hid hzs
              have hbe : ((b.toNat : Int) == 0) = (b == 0) := by
                rw [Bool.eq_iff_iff]
                simp only [beq_iff_eq]
                constructor
                · intro h; exact UInt8.toNat_inj.1 (by simpa using h)
                · intro h; rw [h]; rfl
              have HBE := Lib.hid hbe
              clear hz hzs hbe
              go_wp2_with fail
              go_round
              case rel => exact ⟨q + 1, by go_num, by omega, by rw [HZS.out, ← HBE.out]⟩
              case measure => simp [intOf] <;> omega
            | false =>
              rw [hz, Bool.false_and] at hzs
              have HZS := Lib.hid hzs
              clear hz hzs
              go_wp2_with fail
              go_round
              case rel => exact ⟨q + 1, by go_num, by omega, by rw [HZS.out]⟩
              case measure => simp [intOf] <;> omega
          · obtain rfl : q = 256 := by omega
            rw [zr_all]
            have HUS := Lib.hid (upTo_succ D k)
            have hvk : vis D (k : Int) = !decide (sec = zeroSec) := by unfold vis; rw [HSEC.out]; by_cases h : sec = zeroSec <;> simp [h]
            cases hz : decide (sec = zeroSec) with
            | true =>
              rw [hz, Bool.not_true] at hvk
              have HVK := Lib.hid hvk
              clear hvk hz hlt
              go_wp2_with fail
              go_roundw
              case rel => exact ⟨k + 1, by go_num, by have := HLT.out; omega, by rw [HUS.out, HVK.out, if_neg (by simp), List.append_nil]; exact HV.out.fr HF5.out (fun _ _ h => h), HVB.out, HF.out.trans HF5.out (fun _ _ h => h)⟩
              case measure => have := HLT.out; simp [intOf] <;> omega
            | false =>
              rw [hz, Bool.not_false] at hvk
              have HVK := Lib.hid hvk
              clear hvk hz hlt
              have hlen : (upTo D k).length ≤ 4096 := by have := upTo_len D k; have := HLT.out; omega
              have hF6 : Fr Non wr (w5.alloc (.cells (intE (k : Int)).toArray 3)) := HF5.out.trans ((Fr.refl _ w5).alloc _) (fun _ _ h => h)
              obtain ⟨g6, cap6, w6, hrun, hown, hgr, hlies, hglt⟩ := run_append_one elem3 (t := 68) (ty := 68) Try.underlying68 (w := w5.alloc (.cells (intE (k : Int)).toArray 3)) (HV.out.fr hF6 (fun _ _ h => h)) (g := w5.heap.size) (x := (k : Int)) (heap_alloc_new w5 _) (by unfold maxLen; omega) (by omega)
              have hF7 : Fr Non w1 w6 := (HF.out.trans hF6 (fun _ _ h => h)).grown hgr (fun b hb hlt => absurd (HVB.out b hb) (by omega))
              have hsz : w1.heap.size ≤ w5.heap.size := Nat.le_trans HF.out.size HF5.out.size
              have HRUN := Lib.hid hrun
              have HX := Lib.hid (And.intro hown (And.intro hlies (And.intro hF7 hsz)))
              clear hlen hF6 hrun hown hgr hlies hglt hF7 hsz
              go_wp2_with (first
                | (guard_target =~ wpList _ _ _ (⟨_, Op.buildSlice _ _ _, _, _, _, _⟩ :: _) _ _; refine wl rfl (r_buildSlice (vs := [(0, .int .i64 (k : Int))]) rfl rfl (buildSlice68_one w5 k)) ?_)
                | (at_builtin; refine wl rfl (r_builtin (vs := [.slice va (upTo D k).length vc, .slice (some ⟨w5.heap.size, 0, none⟩) 1 1]) rfl rfl (builtin_append HRUN.out)) ?_)
                | fail)
              go_roundw
              case rel =>
                refine ⟨k + 1, by go_num, by have := HLT.out; omega, ?_, fun b hb => ?_, HX.out.2.2.1⟩
                · have h := HX.out.1
                  rw [HUS.out, HVK.out, if_pos rfl]
                  exact h
                · have e : g6 = b := Option.some.inj hb
                  rcases HX.out.2.1 with h | h
                  · exact HVB.out b (by rw [h, e])
                  · have := HX.out.2.2.2; simp at h; omega
              case measure => have := HLT.out; simp [intOf] <;> omega
      · obtain rfl : k = ss.length := by omega
        go_wp2_with fail
        go_ret
        unfold SpTo
        rw [HE.out]
        have hlen : (upTo D ss.length).length = (upTo D ss.length).length := rfl
        exact ⟨va, vc, rfl, HV.out, HF1.out.trans HF.out (fun _ _ h => h)⟩
end Go.Proofs.Yticgkbpmaakkiaa
