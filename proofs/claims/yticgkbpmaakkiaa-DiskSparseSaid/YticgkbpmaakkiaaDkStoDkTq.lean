/-
  The reference's New.
  What an operation makes of the state, and its code: the device's methods and the reference's functions say the same.
-/
import Derived.Test.YticgkbpmaakkiaaDkRq

namespace Go.Proofs.Yticgkbpmaakkiaa
open Go.RowKit

theorem places45 : placesOf Try.prog 45 = some #[(0, 1), (1, 1), (2, 1), (3, 1), (4, 1)] := by kernel_rfl
theorem run_build_part {P : Program} {w : World} {t : TypeId} {z r : Array Value} {parts : Array (Nat × Value)} {pl : Array (Nat × Nat)} (hz : (zeroValue t).run P w = .ok (.agg z) w) (hp : placesOf P t = some pl) (hf : Instr.fill (fun i => pl[i]?) z parts.toList = some r) :
    (Instr.build t parts).run P w = .ok (.agg r) w := by
  unfold placesOf at hp
  split at hp
  · rename_i fs hu
    split at hp
    · rename_i hall
      have hm := run_places (P := P) (w := w) fs.toList (fun f hf => by
        have := Array.all_eq_true_iff_forall_mem.1 hall f (by simpa using hf)
        exact this)
      unfold Instr.build
      simp only [Sem.run_bind, hz, Result.andThen_ok, Value.cells, run_underlying hu]
      have hm2 : ((fs.mapM fun f => (do pure (f.offset, ← sizeOf f.type) : Sem (Nat × Nat))) : Sem (Array (Nat × Nat))).run P w = .ok pl w := by
        rw [Array.mapM_eq_mapM_toList]
        rw [map_eq_pure_bind, Sem.run_bind, hm]
        cases hp
        exact congrArg (fun x => Result.ok x w) (by apply Array.ext'; simp)
      rw [hm2]
      simp only [Result.andThen_ok, hf, Sem.run_pure]
    · cases hp
  · cases hp
theorem build45 (w : World) : (Instr.build 45 #[(2, .int .i64 (-1))]).run Try.prog w = .ok (.agg #[.slice none 0 0, .slice none 0 0, .int .i64 (-1), .bool false, .int .i64 0]) w :=
  run_build_part (zero45 w) places45 rfl

theorem init_one : (#[.slice none 0 0, .slice none 0 0, .int .i64 (-1), .bool false, .int .i64 0] : Array Value).all (·.oneCell') = true := by
  have : ∀ v ∈ ([.slice none 0 0, .slice none 0 0, .int .i64 (-1), .bool false, .int .i64 0] : List Value), v.oneCell' = true := by
    intro v hv
    simp only [List.mem_cons, List.not_mem_nil, or_false] at hv
    rcases hv with rfl | rfl | rfl | rfl | rfl <;> rfl
  exact all_oneCell_toArray this

theorem zero_at (n i : Int) : (Dsk.fresh n).at i = zeroSec := rfl
theorem fresh_ok (n : Int) (h0 : 1 ≤ n) (h1 : n ≤ 4096) : Dok (Dsk.fresh n) := ⟨h0, h1, Nat.zero_le _, (fun x h => by cases h), (fun h => by cases h)⟩

theorem OwnB.of_block {w : World} {b : Nat} {l : List UInt8} (h : w.heap[b]? = some (.cells (u8s l).toArray 5)) (hl : l.length ≤ maxLen) (n : Nat) (hn : n = l.length) : OwnB w (.slice (some ⟨b, 0, none⟩) n n) l := by
  subst hn
  refine ⟨by rw [enc8_flat, u8s_length, Nat.mul_one], .inr ⟨b, l.length, _, rfl, Nat.zero_le _, h, Nat.le_refl _, hl, by simp [u8s_length], ?_⟩⟩
  rw [enc8_flat, Nat.mul_one]
  simp [← u8s_length l]

set_option maxRecDepth 100000 in
set_option maxHeartbeats 1000000 in
theorem RNew_yes (w : World) (n : Int) (h0 : 1 ≤ n) (h1 : n ≤ 4096) :
    Calls Try.prog 41 #[.int .i64 n] w fun e w' => ∃ dv wv, e = .returned (.tuple #[.agg (refL dv wv (Dsk.fresh n)).toArray, .int .i64 0]) ∧ RefAt w' dv wv (Dsk.fresh n) ∧ Fr Non w w' := by
  obtain ⟨N, rfl⟩ : ∃ N : Nat, n = N := ⟨n.toNat, by omega⟩
  obtain ⟨w1, hw1⟩ : ∃ w1, w.alloc (.cells zref 45) = w1 := ⟨_, rfl⟩
  have hF1 : Fr Non w w1 := by rw [← hw1]; exact (Fr.refl _ w).alloc _
  have hz1 : w1.heap[w.heap.size]? = some (.cells zref 45) := by rw [← hw1]; exact heap_alloc_new w _
  obtain ⟨w2, hw2⟩ : ∃ w2, w1.alloc (.cells #[.slice none 0 0, .slice none 0 0, .int .i64 (-1), .bool false, .int .i64 0] 45) = w2 := ⟨_, rfl⟩
  have hF2 : Fr Non w1 w2 := by rw [← hw2]; exact (Fr.refl _ w1).alloc _
  have hz2 := hF2.keep hz1 (fun h => h)
  have hb2 : w2.heap[w1.heap.size]? = some (.cells (refL (.slice none 0 0) (.slice none 0 0) (Dsk.fresh N)).toArray 45) := by rw [← hw2]; exact heap_alloc_new w1 _
  have hs1 : w1.heap.size = w.heap.size + 1 := by rw [← hw1]; simp
  have HS1 := Lib.hid hs1
  have HZ2 := Lib.hid hz2
  have HB2 := Lib.hid hb2
  have HF2 := Lib.hid (hF1.trans hF2 (fun _ _ h => h))
  have hN : (N : Int) ≤ 4096 := h1
  clear hF1 hz1 hF2 hz2 hb2 hs1
  go_enter Try.func41, Try.ntmps41
  go_wp2_with (first
    | (guard_target =~ wpList _ _ _ (⟨_, Op.build 45 _, _, _, _, _⟩ :: _) _ _; refine wl rfl (r_build (vs := [(2, .int .i64 (-1))]) rfl rfl (build45 _)) ?_)
    | (guard_target =~ wpList _ _ _ (⟨_, Op.alloc 45, _, _, _, _⟩ :: _) _ w; refine wl rfl (r_allocA rfl (zero45 _)) ?_; rw [hw1])
    | (guard_target =~ wpList _ _ _ (⟨_, Op.alloc 45, _, _, _, _⟩ :: _) _ _; refine wl rfl (r_allocA rfl (zero45 _)) ?_)
    | (guard_target =~ wpList _ _ _ (⟨_, Op.store 45 _ _, _, _, _, _⟩ :: _) _ _; go_loud (refine wu rfl (r_store_new (c := zref) (c' := #[.slice none 0 0, .slice none 0 0, .int .i64 (-1), .bool false, .int .i64 0]) rfl rfl rfl (by rw [sz45]; rfl) rfl init_one) ?_; rw [hw2]))
    | fail)
  go_loopw [5] (fun u wr => ∃ k : Nat, k ≤ N ∧ u = .int .i64 k ∧ ∃ v ss, ss.length = k ∧ RowsAt wr w2.heap.size v ss (fun _ => zeroSec) ∧ wr.heap[w1.heap.size]? = some (.cells (refL v (.slice none 0 0) (Dsk.fresh N)).toArray 45) ∧
    wr.heap[w.heap.size]? = some (.cells zref 45) ∧ Fr Non w wr ∧ w2.heap.size ≤ wr.heap.size) (fun u _ => N - (intOf u).toNat)
  case atStart => exact ⟨0, Nat.zero_le _, rfl, _, [], rfl, RowsAt.nil _ _ _, HB2.out, HZ2.out, HF2.out, Nat.le_refl _⟩
  case round =>
    obtain ⟨k, hk, rfl, v, ss, hsl, hR, hB, hZ, hG, hQ⟩ := hrel
    obtain ⟨a3, c3, rfl, _⟩ := Own.shape hR.own
    rw [hsl] at hR hB
    have c0 : wr.cell? ⟨w1.heap.size, 0, none⟩ = some (.slice a3 k c3) := cellOf hB 0 rfl
    have hs01 : w.heap.size < w1.heap.size := by have := HS1.out; omega
    have hs12 : w1.heap.size < w2.heap.size := heap_lt HB2.out
    by_cases hlt : k < N
    · have hmk := run_make256 wr.drew
      obtain ⟨w4, hw4⟩ : ∃ w4, wr.drew.alloc (.cells (u8s (List.replicate 256 0)).toArray 5) = w4 := ⟨_, rfl⟩
      rw [hw4] at hmk
      have hF4 : Fr Non wr w4 := by rw [← hw4]; exact ((Fr.refl _ wr).drew).alloc _
      have hb4 : w4.heap[wr.heap.size]? = some (.cells (u8s zeroSec.1).toArray 5) := by rw [← hw4]; exact heap_alloc_new wr.drew _
      have ho4 : OwnB w4 (.slice (some ⟨wr.heap.size, 0, none⟩) 256 256) zeroSec.1 := OwnB.of_block hb4 (by rw [zeroSec.2]; decide) 256 zeroSec.2.symm
      have hF5 : Fr Non wr (w4.alloc (.cells (encS (some ⟨wr.heap.size, 0, none⟩, 256, 256)).toArray 30)) := hF4.alloc _
      have hR5 := hR.fr hF5 (Apart.non _)
      obtain ⟨b5, cap5, w5, hrun5, ho5, hgr5, hlies5, hlt5⟩ := run_append_one elem30 (t := 42) (ty := 42) Try.underlying42 hR5.own (g := w4.heap.size) (x := (some ⟨wr.heap.size, 0, none⟩, 256, 256)) (heap_alloc_new w4 _) (by unfold maxLen; omega) (by omega)
      have hgrF : Fr (fun b => (Value.slice a3 k c3).ownBlock = some b) (w4.alloc (.cells (encS (some ⟨wr.heap.size, 0, none⟩, 256, 256)).toArray 30)) w5 := (Fr.refl _ _).grown hgr5 (fun k hk _ => hk)
      have hR6 := hR5.snoc (w2 := w5) (v' := .slice (some ⟨b5, 0, none⟩) (ss.length + 1) cap5) (g := wr.heap.size) (cap := 256) (ho4.fr ((Fr.refl Non w4).alloc _) (fun _ _ h => h)) hQ (by have := hF5.size; omega)
        (fun i t ht e => by
          obtain ⟨g', c', e', ho', _⟩ := hR.el i t ht
          rw [e'] at e
          have := OwnB.lt ho'
          have e2 : g' = wr.heap.size := by injection e with e; injection e
          omega) ho5 hgr5 (fun b hb => by
            have e : b5 = b := Option.some.inj hb
            rcases hlies5 with h | h
            · exact .inl (by rw [← e]; exact h)
            · exact .inr (by omega))
      rw [hsl] at hR6 hrun5
      have hnb : ∀ q, q < w2.heap.size → ¬ (Value.slice a3 k c3).ownBlock = some q := fun q hq e => by have := hR.vb q e; omega
      have hB6 := hgrF.keep (hF5.keep hB (fun h => h)) (hnb _ hs12)
      have hZ6 := hgrF.keep (hF5.keep hZ (fun h => h)) (hnb _ (by omega))
      have hB7 : (w5.setCell ⟨w1.heap.size, 0, none⟩ (.slice (some ⟨b5, 0, none⟩) (k + 1) cap5)).heap[w1.heap.size]? = some (.cells (refL (.slice (some ⟨b5, 0, none⟩) (k + 1) cap5) (.slice none 0 0) (Dsk.fresh N)).toArray 45) := by rw [heap_setCell_at hB6]; rfl
      have hF7 : Fr (· = w1.heap.size) w5 (w5.setCell ⟨w1.heap.size, 0, none⟩ (.slice (some ⟨b5, 0, none⟩) (k + 1) cap5)) := (Fr.refl (· = w1.heap.size) w5).setCell _ _ (fun _ => rfl)
      have hA7 : Apart w5 (· = w1.heap.size) := by
        rintro q rfl cs
        rw [hB6]; exact ⟨by simp, by simp, by simp⟩
      have H7 := Lib.hid (And.intro (hR6.fr hF7 hA7) (And.intro hB7 (And.intro (hF7.keep hZ6 (by omega)) (And.intro (((hG.trans hF5 (fun _ _ h => h)).trans hgrF (fun i hi e => absurd e (hnb i (by omega)))).trans hF7 (fun i hi e => by exfalso; omega)) (Nat.le_trans (Nat.le_trans hQ hF5.size) (Nat.le_trans hgrF.size hF7.size))))))
      have d6 : w5.cell? ⟨w1.heap.size, 0, none⟩ = some (.slice a3 k c3) := cellOf hB6 0 rfl
      have f6 : w5.frozen? ⟨w1.heap.size, 0, none⟩ = false := frozenOf hB6 0
      have hS0 : ∀ W, Fr Non wr W → W.cell? ⟨w1.heap.size, 0, none⟩ = some (.slice a3 k c3) := fun W hW => hW.cell c0 (fun h => h)
      have HS := Lib.hid hS0
      have HF4 := Lib.hid hF4
      have HF5 := Lib.hid hF5
      have HRUN5 := Lib.hid hrun5
      have HMK := Lib.hid hmk
      have HSL := Lib.hid hsl
      have hkN : (k : Int) < (N : Int) := by omega
      clear hR hB hZ hG hQ hs01 hs12 hmk hF4 hb4 ho4 hF5 hR5 hrun5 ho5 hgr5 hlies5 hlt5 hgrF hR6 hnb hB6 hZ6 hB7 hF7 hA7 hS0 hsl
      go_wp2_with fail
      refine rc (fun W => W.cell? ⟨w1.heap.size, 0, none⟩ = some (.slice a3 k c3)) 4 (by kernel_rfl) ?_
      have hS := HS.out wr.drew ((Fr.refl _ _).drew)
      refine tc (i := 0) (v := .pointer (some ⟨w1.heap.size, 0, none⟩)) rfl 8 (by kernel_rfl) (fun _ _ _ h => h) rfl (fun W0 hw => by unfold RunV; go_simp) hS ?_
      simp only [Act.put, List.setIfInBounds_toArray, List.set_cons_zero, List.set_cons_succ]
      refine tc (i := 1) (v := .slice a3 k c3) rfl 8 (by kernel_rfl) (fun _ _ _ h => h) rfl (fun W0 hw => by unfold RunV; go_simp) hS ?_
      simp only [Act.put, List.setIfInBounds_toArray, List.set_cons_zero, List.set_cons_succ]
      clear hS
      refine oc3 (i := 2) rfl (by kernel_rfl) rfl (HS.out _ HF4.out) (r_makeSlice rfl rfl rfl HMK.out) ?_
      simp only [Act.put, List.setIfInBounds_toArray, List.set_cons_zero, List.set_cons_succ]
      refine oc3 (i := 3) rfl (by kernel_rfl) rfl (w' := w4.alloc (.cells (encS (some ⟨wr.heap.size, 0, none⟩, 256, 256)).toArray 30)) (HS.out _ HF5.out) (r_buildSlice (vs := [(0, .slice (some ⟨wr.heap.size, 0, none⟩) 256 256)]) rfl rfl (buildSlice42 w4 (some ⟨wr.heap.size, 0, none⟩, 256, 256))) ?_
      simp only [Act.put, List.setIfInBounds_toArray, List.set_cons_zero, List.set_cons_succ]
      refine oc2 (i := 4) rfl (by kernel_rfl) rfl (by kernel_rfl) (r_builtin (vs := [.slice a3 k c3, .slice (some ⟨w4.heap.size, 0, none⟩) 1 1]) rfl rfl (builtin_append HRUN5.out)) ?_
      simp only [Act.put, List.setIfInBounds_toArray, List.set_cons_zero, List.set_cons_succ]
      refine oc2 (i := 5) (w' := w5) (v := .pointer (some ⟨w1.heap.size, 0, none⟩)) rfl (by kernel_rfl) rfl (by kernel_rfl) (by unfold RunV; go_simp) ?_
      simp only [Act.put, List.setIfInBounds_toArray, List.set_cons_zero, List.set_cons_succ]
      refine oc2u (i := 6) (w' := w5.setCell ⟨w1.heap.size, 0, none⟩ (.slice (some ⟨b5, 0, none⟩) (k + 1) cap5)) rfl (by kernel_rfl) rfl (by kernel_rfl) (by unfold RunU; go_simp) ?_
      refine dc (by kernel_rfl) ?_
      clear d6 f6 c0
      generalize w5.setCell ⟨w1.heap.size, 0, none⟩ (.slice (some ⟨b5, 0, none⟩) (k + 1) cap5) = W8 at *
      go_wp2
      go_roundw
      case rel => exact ⟨k + 1, by omega, by go_num, _, _, by simp [HSL.out], H7.out⟩
      case measure => simp [intOf] <;> omega
    · obtain rfl : k = N := by omega
      have hAp : Apart wr (· = w.heap.size) := by
        rintro j rfl cs
        rw [hZ]; exact ⟨by simp, by simp, by simp⟩
      have hFb : Fr (· = w.heap.size) wr (wr.setCells w.heap.size 0 (refL (.slice a3 k c3) (.slice none 0 0) (Dsk.fresh k))) := Fr.setCells (S := (· = w.heap.size)) _ (fun _ => rfl) _ _ _ (Fr.refl _ _)
      have hat : RefAt (wr.setCells w.heap.size 0 (refL (.slice a3 k c3) (.slice none 0 0) (Dsk.fresh k))) (.slice a3 k c3) (.slice none 0 0) (Dsk.fresh k) :=
        RefNew.at (B := w2.heap.size) ⟨ss, [], hR.fr hFb hAp, by rw [hsl]; rfl, WrsAt.nil _ _, fun i j s y _ hy => (by cases hy)⟩
      have HR1 := Lib.hid (rangeAt_of hB 0 (refL (.slice a3 k c3) (.slice none 0 0) (Dsk.fresh k)) (by simp))
      have HT1 := Lib.hid (there45 hZ rfl)
      have HP1 := Lib.hid (put45 hZ rfl (l := refL (.slice a3 k c3) (.slice none 0 0) (Dsk.fresh k)) rfl)
      have HFIN := Lib.hid (And.intro hat (hG.trans hFb (fun i hi e => by exfalso; omega)))
      have HONE := Lib.hid (refL_one hat (Dsk.fresh k))
      clear hR hB hZ hG hQ hAp hFb hlt hk hat hs01 hs12 c0 hsl
      go_wp2_with (first
        | (guard_target =~ wpList _ _ _ (⟨_, Op.load 45 _, _, _, _, _⟩ :: _) _ _; refine wl rfl (r_load (b := w1.heap.size) (i := 0) rfl rfl HR1.out Try.underlying45 rfl (by rw [sz45]; rfl)) ?_)
        | (guard_target =~ wpList _ _ _ (⟨_, Op.store 45 _ _, _, _, _, _⟩ :: _) _ _; refine wu rfl (r_store (b := w.heap.size) (i := 0) (cs := refL (.slice a3 k c3) (.slice none 0 0) (Dsk.fresh k)) rfl rfl rfl HT1.out (by rw [sz45]; rfl) HONE.out) ?_; generalize wr.setCells w.heap.size 0 (refL (.slice a3 k c3) (.slice none 0 0) (Dsk.fresh k)) = W9 at *)
        | fail)
      refine bodyPost_ret (results_cell_tmp rfl _ _ w.heap.size 45 _ (0, 0) _ _ rfl HP1.out rfl Try.underlying45 rfl (by rw [sz45]; rfl)) rfl ⟨_, _, rfl, HFIN.out.1, HFIN.out.2⟩
end Go.Proofs.Yticgkbpmaakkiaa

namespace Go.Proofs.Yticgkbpmaakkiaa
open Go.RowKit

theorem BytesAt.fr0 {S : Nat → Prop} {w w' : World} (hf : Fr S w w') {sv : Value} {l : List UInt8} (h : BytesAt w sv l) (hn : l = [] ∨ ∀ k, sv.ownBlock = some k → ¬ S k) : BytesAt w' sv l := by
  rcases hn with rfl | hn
  · obtain ⟨a, cap, e, _⟩ := h
    exact ⟨a, cap, e, .inl rfl⟩
  · exact h.fr hf hn

def Dsk.wr (D : Dsk) (n : Int) (s : Sec) : Dsk × Int :=
  if D.down = true then (D, 28) else if D.has n = false then (D, 8) else if D.spent = true then ({ D with down := true }, 28) else ({ D.count with pend := D.pend ++ [(n, s)] }, 0)
def Dsk.wrong (D : Dsk) (n : Int) : Int := if D.down = true then 28 else if D.has n = false then 8 else 2
def Dsk.fl (D : Dsk) : Dsk × Int :=
  if D.down = true then (D, 28) else if D.spent = true then ({ D with down := true }, 28) else ({ D.count.storeAll D.pend with pend := [] }, 0)
def Dsk.re (D : Dsk) (cs : List UInt8) : Dsk × Int := if D.down = false then (D, 10) else (D.restart cs, 0)
def Dsk.da (D : Dsk) (n i : Int) (b : UInt8) : Dsk × Int := if D.has n = false then (D, 8) else if i < 0 ∨ 256 ≤ i then (D, 2) else (D.damage n i.toNat b, 0)

theorem Write_all (w : World) (p m : Nat) (pv : Value) (D : Dsk) (n : Int) (g o cap : Nat) (s : Sec) (h : DiskAt w p m pv D) (hl : D.pend.length ≤ 100000) (hb : BytesAt w (.slice (some ⟨g, o, none⟩) 256 cap) s.1) (hg : g ≠ p ∧ pv.ownBlock ≠ some g) :
    Calls Try.prog 20 #[.pointer (some ⟨p, 0, none⟩), .int .i64 n, .slice (some ⟨g, o, none⟩) 256 cap] w fun e w' => e = .returned (.int .i64 (D.wr n s).2) ∧ Step w w' p m pv (D.wr n s).1 := by
  unfold Dsk.wr
  by_cases hd : D.down = true
  · rw [if_pos hd]
    refine (Write_down w p m pv D n _ h hd).mono ?_
    rintro e w' ⟨he, rfl⟩
    exact ⟨he, Step.refl h (Fr.refl _ _)⟩
  rw [if_neg hd]
  have hd' : D.down = false := by simpa using hd
  by_cases hh : D.has n = false
  · rw [if_pos hh]
    refine (Write_no w p m pv D n _ h hd' hh).mono ?_
    rintro e w' ⟨he, rfl⟩
    exact ⟨he, Step.refl h (Fr.refl _ _)⟩
  rw [if_neg hh]
  have hh' : D.has n = true := by simpa using hh
  by_cases hs : D.spent = true
  · rw [if_pos hs]
    refine (Write_spent w p m pv D n _ _ h hd' hh' hs).mono ?_
    rintro e w' ⟨he, hD, hF⟩
    exact ⟨he, Step.of_p hD hF⟩
  rw [if_neg hs]
  exact Write_ok w p m pv D n _ s h hd' hh' (by simpa using hs) hl hb (fun k e => by cases e; exact hg)

theorem Write_wrong (w : World) (p m : Nat) (pv : Value) (D : Dsk) (n : Int) (a : Option Addr) (l cap : Nat) (h : DiskAt w p m pv D) (hl : l ≠ 256) :
    Calls Try.prog 20 #[.pointer (some ⟨p, 0, none⟩), .int .i64 n, .slice a l cap] w fun e w' => e = .returned (.int .i64 (D.wrong n)) ∧ w = w' := by
  unfold Dsk.wrong
  by_cases hd : D.down = true
  · rw [if_pos hd]; exact Write_down w p m pv D n _ h hd
  rw [if_neg hd]
  have hd' : D.down = false := by simpa using hd
  by_cases hh : D.has n = false
  · rw [if_pos hh]; exact Write_no w p m pv D n _ h hd' hh
  rw [if_neg hh]
  exact Write_len w p m pv D n a l cap h hd' (by simpa using hh) hl

theorem Flush_all (w : World) (p m : Nat) (pv : Value) (D : Dsk) (h : DiskAt w p m pv D) (hl : D.pend.length ≤ 100000) :
    Calls Try.prog 19 #[.pointer (some ⟨p, 0, none⟩)] w fun e w' => e = .returned (.int .i64 D.fl.2) ∧ Step w w' p m pv D.fl.1 := by
  unfold Dsk.fl
  by_cases hd : D.down = true
  · rw [if_pos hd]
    refine (Flush_down w p m pv D h hd).mono ?_
    rintro e w' ⟨he, rfl⟩
    exact ⟨he, Step.refl h (Fr.refl _ _)⟩
  rw [if_neg hd]
  have hd' : D.down = false := by simpa using hd
  by_cases hs : D.spent = true
  · rw [if_pos hs]
    refine (Flush_spent w p m pv D h hd' hs).mono ?_
    rintro e w' ⟨he, hD, hF⟩
    exact ⟨he, Step.of_p hD hF⟩
  rw [if_neg hs]
  exact Flush_ok w p m pv D h hd' (by simpa using hs) hl

set_option maxRecDepth 100000 in
theorem Restart_up (w : World) (p m : Nat) (pv : Value) (D : Dsk) (sv : Value) (h : DiskAt w p m pv D) (hd : D.down = false) :
    Calls Try.prog 25 #[.pointer (some ⟨p, 0, none⟩), sv] w fun e w' => e = .returned (.int .i64 10) ∧ w = w' := by
  obtain ⟨c0, c1, c2, c3, c4, c5, c6⟩ := h.cell
  rw [hd] at c6
  clear h c0 c1 c2 c3 c4 c5
  go_enter Try.func25, Try.ntmps25
  go_wp2
  go_ret
  exact ⟨rfl, rfl⟩
set_option maxRecDepth 100000 in
theorem Restart_nil (w : World) (sv : Value) : Calls Try.prog 25 #[.pointer none, sv] w fun e w' => e = .returned (.int .i64 1) ∧ w = w' := by
  go_enter Try.func25, Try.ntmps25
  go_wp2
  go_ret
  exact ⟨rfl, rfl⟩
theorem Restart_all (w : World) (p m : Nat) (pv : Value) (D : Dsk) (sv : Value) (cs : List UInt8) (h : DiskAt w p m pv D) (hl : D.pend.length ≤ 100000) (hb : BytesAt w sv cs) (hsp : cs = [] ∨ ∀ k, sv.ownBlock = some k → k ≠ m) (hcs : cs.length ≤ 9223372036854775807) :
    Calls Try.prog 25 #[.pointer (some ⟨p, 0, none⟩), sv] w fun e w' => e = .returned (.int .i64 (D.re cs).2) ∧ Step w w' p m pv (D.re cs).1 := by
  unfold Dsk.re
  by_cases hd : D.down = false
  · rw [if_pos hd]
    refine (Restart_up w p m pv D sv h hd).mono ?_
    rintro e w' ⟨he, rfl⟩
    exact ⟨he, Step.refl h (Fr.refl _ _)⟩
  rw [if_neg hd]
  exact Restart_ok w p m pv D sv cs h (by simpa using hd) hl hb hsp hcs

theorem Damage_all (w : World) (p m : Nat) (pv : Value) (D : Dsk) (n i : Int) (b : UInt8) (h : DiskAt w p m pv D) (hl : D.pend.length ≤ 100000) :
    Calls Try.prog 35 #[.pointer (some ⟨p, 0, none⟩), .int .i64 n, .int .i64 i, .int .u8 b.toNat] w fun e w' => e = .returned (.int .i64 (D.da n i b).2) ∧ Step w w' p m pv (D.da n i b).1 := by
  unfold Dsk.da
  by_cases hh : D.has n = false
  · rw [if_pos hh]
    refine (Damage_no w p m pv D n i _ h hh).mono ?_
    rintro e w' ⟨he, rfl⟩
    exact ⟨he, Step.refl h (Fr.refl _ _)⟩
  rw [if_neg hh]
  have hh' : D.has n = true := by simpa using hh
  by_cases hi : i < 0 ∨ 256 ≤ i
  · rw [if_pos hi]
    refine (Damage_at w p m pv D n i _ h hh' hi).mono ?_
    rintro e w' ⟨he, rfl⟩
    exact ⟨he, Step.refl h (Fr.refl _ _)⟩
  rw [if_neg hi]
  obtain ⟨j, rfl⟩ : ∃ j : Nat, i = j := ⟨i.toNat, by omega⟩
  refine (Damage_ok w p m pv D n j b h hh' (by omega) hl).mono ?_
  rintro e w' ⟨he, hD, hF⟩
  exact ⟨he, pv, hD, hF, fun k hk => .inl hk⟩

/-! ### the reference -/
def RefTo (w w' : World) (e : Ending) (r : Dsk × Int) : Prop := ∃ dv' wv', e = .returned (.tuple #[.agg (refL dv' wv' r.1).toArray, .int .i64 r.2]) ∧ RefAt w' dv' wv' r.1 ∧ Fr Non w w'
theorem RefTo.same {w w' : World} {e : Ending} {dv wv : Value} {D : Dsk} {c : Int} (h : RefAt w dv wv D) (he : e = .returned (.tuple #[.agg (refL dv wv D).toArray, .int .i64 c]) ∧ Fr Non w w') : RefTo w w' e (D, c) := ⟨dv, wv, he.1, h.non he.2, he.2⟩

theorem RWrite_all (w : World) (dv wv : Value) (D : Dsk) (n : Int) (g o cap : Nat) (s : Sec) (hD : Dok D) (h : RefAt w dv wv D) (hl : D.pend.length ≤ 49999) (hb : BytesAt w (.slice (some ⟨g, o, none⟩) 256 cap) s.1) :
    Calls Try.prog 47 #[.agg (refL dv wv D).toArray, .int .i64 n, .slice (some ⟨g, o, none⟩) 256 cap] w fun e w' => RefTo w w' e (D.wr n s) := by
  unfold Dsk.wr
  by_cases hd : D.down = true
  · rw [if_pos hd]; exact (RWrite_down w dv wv D n _ _ _ h hd).mono fun e w' he => RefTo.same h he
  rw [if_neg hd]
  have hd' : D.down = false := by simpa using hd
  by_cases hh : D.has n = false
  · rw [if_pos hh]; exact (RWrite_no w dv wv D n _ _ _ hD h hd' hh).mono fun e w' he => RefTo.same h he
  rw [if_neg hh]
  have hh' : D.has n = true := by simpa using hh
  by_cases hs : D.spent = true
  · rw [if_pos hs]; exact RWrite_spent w dv wv D n _ _ hD h hd' hh' hs
  rw [if_neg hs]
  exact RWrite_ok w dv wv D n _ s hD h hd' hh' (by simpa using hs) hl hb
theorem RWrite_wrong (w : World) (dv wv : Value) (D : Dsk) (n : Int) (a : Option Addr) (l cap : Nat) (hD : Dok D) (h : RefAt w dv wv D) (hl : l ≠ 256) :
    Calls Try.prog 47 #[.agg (refL dv wv D).toArray, .int .i64 n, .slice a l cap] w fun e w' => RefTo w w' e (D, D.wrong n) := by
  unfold Dsk.wrong
  by_cases hd : D.down = true
  · rw [if_pos hd]; exact (RWrite_down w dv wv D n _ _ _ h hd).mono fun e w' he => RefTo.same h he
  rw [if_neg hd]
  have hd' : D.down = false := by simpa using hd
  by_cases hh : D.has n = false
  · rw [if_pos hh]; exact (RWrite_no w dv wv D n _ _ _ hD h hd' hh).mono fun e w' he => RefTo.same h he
  rw [if_neg hh]
  exact (RWrite_len w dv wv D n a l cap hD h hd' (by simpa using hh) hl).mono fun e w' he => RefTo.same h he
theorem RFlush_all (w : World) (dv wv : Value) (D : Dsk) (hD : Dok D) (h : RefAt w dv wv D) :
    Calls Try.prog 28 #[.agg (refL dv wv D).toArray] w fun e w' => RefTo w w' e D.fl := by
  unfold Dsk.fl
  by_cases hd : D.down = true
  · rw [if_pos hd]; exact (RFlush_down w dv wv D h hd).mono fun e w' he => RefTo.same h he
  rw [if_neg hd]
  have hd' : D.down = false := by simpa using hd
  by_cases hs : D.spent = true
  · rw [if_pos hs]; exact RFlush_spent w dv wv D hD h hd' hs
  rw [if_neg hs]
  exact RFlush_ok w dv wv D hD h hd' (by simpa using hs)
theorem RRestart_all (w : World) (dv wv : Value) (D : Dsk) (a : Option Addr) (l c : Nat) (cs : List UInt8) (hD : Dok D) (h : RefAt w dv wv D) (hcs : cs.length ≤ 9223372036854775807) (hb : BytesAt w (.slice a l c) cs) :
    Calls Try.prog 49 #[.agg (refL dv wv D).toArray, .slice a l c] w fun e w' => RefTo w w' e (D.re cs) := by
  unfold Dsk.re
  by_cases hd : D.down = false
  · rw [if_pos hd]; exact (RRestart_up w dv wv D a l c h hd).mono fun e w' he => RefTo.same h he
  rw [if_neg hd]
  exact RRestart_ok w dv wv D _ cs hD h (by simpa using hd) hcs hb
theorem RDamage_all (w : World) (dv wv : Value) (D : Dsk) (n i : Int) (b : UInt8) (hD : Dok D) (h : RefAt w dv wv D) :
    Calls Try.prog 50 #[.agg (refL dv wv D).toArray, .int .i64 n, .int .i64 i, .int .u8 b.toNat] w fun e w' => RefTo w w' e (D.da n i b) := by
  unfold Dsk.da
  by_cases hh : D.has n = false
  · rw [if_pos hh]; exact (RDamage_no w dv wv D n i _ hD h hh).mono fun e w' he => RefTo.same h he
  rw [if_neg hh]
  have hh' : D.has n = true := by simpa using hh
  by_cases hi : i < 0 ∨ 256 ≤ i
  · rw [if_pos hi]; exact (RDamage_at w dv wv D n i _ hD h hh' hi).mono fun e w' he => RefTo.same h he
  rw [if_neg hi]
  obtain ⟨j, rfl⟩ : ∃ j : Nat, i = j := ⟨i.toNat, by omega⟩
  exact RDamage_ok w dv wv D n j b hD h hh' (by omega)
end Go.Proofs.Yticgkbpmaakkiaa
