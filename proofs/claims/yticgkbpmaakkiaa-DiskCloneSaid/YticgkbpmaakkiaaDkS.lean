/-
  The reference's New.
-/
import Derived.Test.YticgkbpmaakkiaaDkR
namespace Go.Proofs.Yticgkbpmaakkiaa
open Go.RowKit

theorem places45 : placesOf Try.prog 45 = some #[(0, 1), (1, 1), (2, 1), (3, 1), (4, 1)] := by kernel_rfl
theorem run_build_part {P : Program} {w : World} {t : TypeId} {z r : Array Value} {parts : Array (Nat × Value)} {pl : Array (Nat × Nat)} (hz : (zeroValue t).run P w = .ok (.agg z) w) (hp : placesOf P t = some pl) (hf : Instr.fill (fun i => pl[i]?) z parts.toList = some r) :
    (Instr.build t parts).run P w = .ok (.agg r) w := by
  unfold placesOf at hp
  split at hp
  · rename_i fs hu
    split at hp
    · rename_i hall
      have hm := run_places (P := P) (w := w) fs.toList (fun f hf => by
        have := Array.all_eq_true_iff_forall_mem.1 hall f (by simpa using hf)
        exact this)
      unfold Instr.build
      simp only [Sem.run_bind, hz, Result.andThen_ok, Value.cells, run_underlying hu]
      have hm2 : ((fs.mapM fun f => (do pure (f.offset, ← sizeOf f.type) : Sem (Nat × Nat))) : Sem (Array (Nat × Nat))).run P w = .ok pl w := by
        rw [Array.mapM_eq_mapM_toList]
        rw [map_eq_pure_bind, Sem.run_bind, hm]
        cases hp
        exact congrArg (fun x => Result.ok x w) (by apply Array.ext'; simp)
      rw [hm2]
      simp only [Result.andThen_ok, hf, Sem.run_pure]
    · cases hp
  · cases hp
theorem build45 (w : World) : (Instr.build 45 #[(2, .int .i64 (-1))]).run Try.prog w = .ok (.agg #[.slice none 0 0, .slice none 0 0, .int .i64 (-1), .bool false, .int .i64 0]) w :=
  run_build_part (zero45 w) places45 rfl

theorem init_one : (#[.slice none 0 0, .slice none 0 0, .int .i64 (-1), .bool false, .int .i64 0] : Array Value).all (·.oneCell') = true := by
  have : ∀ v ∈ ([.slice none 0 0, .slice none 0 0, .int .i64 (-1), .bool false, .int .i64 0] : List Value), v.oneCell' = true := by
    intro v hv
    simp only [List.mem_cons, List.not_mem_nil, or_false] at hv
    rcases hv with rfl | rfl | rfl | rfl | rfl <;> rfl
  exact all_oneCell_toArray this

theorem zero_at (n i : Int) : (Dsk.fresh n).at i = zeroSec := rfl
theorem fresh_ok (n : Int) (h0 : 1 ≤ n) (h1 : n ≤ 4096) : Dok (Dsk.fresh n) := ⟨h0, h1, Nat.zero_le _, (fun x h => by cases h), (fun h => by cases h)⟩

theorem OwnB.of_block {w : World} {b : Nat} {l : List UInt8} (h : w.heap[b]? = some (.cells (u8s l).toArray 5)) (hl : l.length ≤ maxLen) (n : Nat) (hn : n = l.length) : OwnB w (.slice (some ⟨b, 0, none⟩) n n) l := by
  subst hn
  refine ⟨by rw [enc8_flat, u8s_length, Nat.mul_one], .inr ⟨b, l.length, _, rfl, Nat.zero_le _, h, Nat.le_refl _, hl, by simp [u8s_length], ?_⟩⟩
  rw [enc8_flat, Nat.mul_one]
  simp [← u8s_length l]

set_option maxRecDepth 100000 in
set_option maxHeartbeats 1000000 in
theorem RNew_yes (w : World) (n : Int) (h0 : 1 ≤ n) (h1 : n ≤ 4096) :
    Calls Try.prog 41 #[.int .i64 n] w fun e w' => ∃ dv wv, e = .returned (.tuple #[.agg (refL dv wv (Dsk.fresh n)).toArray, .int .i64 0]) ∧ RefAt w' dv wv (Dsk.fresh n) ∧ Fr Non w w' := by
  obtain ⟨N, rfl⟩ : ∃ N : Nat, n = N := ⟨n.toNat, by omega⟩
  obtain ⟨w1, hw1⟩ : ∃ w1, w.alloc (.cells zref 45) = w1 := ⟨_, rfl⟩
  have hF1 : Fr Non w w1 := by rw [← hw1]; exact (Fr.refl _ w).alloc _
  have hz1 : w1.heap[w.heap.size]? = some (.cells zref 45) := by rw [← hw1]; exact heap_alloc_new w _
  obtain ⟨w2, hw2⟩ : ∃ w2, w1.alloc (.cells #[.slice none 0 0, .slice none 0 0, .int .i64 (-1), .bool false, .int .i64 0] 45) = w2 := ⟨_, rfl⟩
  have hF2 : Fr Non w1 w2 := by rw [← hw2]; exact (Fr.refl _ w1).alloc _
  have hz2 := hF2.keep hz1 (fun h => h)
  have hb2 : w2.heap[w1.heap.size]? = some (.cells (refL (.slice none 0 0) (.slice none 0 0) (Dsk.fresh N)).toArray 45) := by rw [← hw2]; exact heap_alloc_new w1 _
  have hs1 : w1.heap.size = w.heap.size + 1 := by rw [← hw1]; simp
  have HS1 := Lib.hid hs1
  have HZ2 := Lib.hid hz2
  have HB2 := Lib.hid hb2
  have HF2 := Lib.hid (hF1.trans hF2 (fun _ _ h => h))
  have hN : (N : Int) ≤ 4096 := h1
  clear hF1 hz1 hF2 hz2 hb2 hs1
  go_enter Try.func41, Try.ntmps41
  go_wp2_with (first
    | (guard_target =~ wpList _ _ _ (⟨_, Op.build 45 _, _, _, _, _⟩ :: _) _ _; refine wl rfl (r_build (vs := [(2, .int .i64 (-1))]) rfl rfl (build45 _)) ?_)
    | (guard_target =~ wpList _ _ _ (⟨_, Op.alloc 45, _, _, _, _⟩ :: _) _ w; refine wl rfl (r_allocA rfl (zero45 _)) ?_; rw [hw1])
    | (guard_target =~ wpList _ _ _ (⟨_, Op.alloc 45, _, _, _, _⟩ :: _) _ _; refine wl rfl (r_allocA rfl (zero45 _)) ?_)
    | (guard_target =~ wpList _ _ _ (⟨_, Op.store 45 _ _, _, _, _, _⟩ :: _) _ _; go_loud (refine wu rfl (r_store_new (c := zref) (c' := #[.slice none 0 0, .slice none 0 0, .int .i64 (-1), .bool false, .int .i64 0]) rfl rfl rfl (by rw [sz45]; rfl) rfl init_one) ?_; rw [hw2]))
    | fail)
  go_loopw [5] (fun u wr => ∃ k : Nat, k ≤ N ∧ u = .int .i64 k ∧ ∃ v ss, ss.length = k ∧ RowsAt wr w2.heap.size v ss (fun _ => zeroSec) ∧ wr.heap[w1.heap.size]? = some (.cells (refL v (.slice none 0 0) (Dsk.fresh N)).toArray 45) ∧
    wr.heap[w.heap.size]? = some (.cells zref 45) ∧ Fr Non w wr ∧ w2.heap.size ≤ wr.heap.size) (fun u _ => N - (intOf u).toNat)
  case atStart => exact ⟨0, Nat.zero_le _, rfl, _, [], rfl, RowsAt.nil _ _ _, HB2.out, HZ2.out, HF2.out, Nat.le_refl _⟩
  case round =>
    obtain ⟨k, hk, rfl, v, ss, hsl, hR, hB, hZ, hG, hQ⟩ := hrel
    obtain ⟨a3, c3, rfl, _⟩ := Own.shape hR.own
    rw [hsl] at hR hB
    have c0 : wr.cell? ⟨w1.heap.size, 0, none⟩ = some (.slice a3 k c3) := cellOf hB 0 rfl
    have hs01 : w.heap.size < w1.heap.size := by have := HS1.out; omega
    have hs12 : w1.heap.size < w2.heap.size := heap_lt HB2.out
    by_cases hlt : k < N
    · have hmk := run_make256 wr.drew
      obtain ⟨w4, hw4⟩ : ∃ w4, wr.drew.alloc (.cells (u8s (List.replicate 256 0)).toArray 5) = w4 := ⟨_, rfl⟩
      rw [hw4] at hmk
      have hF4 : Fr Non wr w4 := by rw [← hw4]; exact ((Fr.refl _ wr).drew).alloc _
      have hb4 : w4.heap[wr.heap.size]? = some (.cells (u8s zeroSec.1).toArray 5) := by rw [← hw4]; exact heap_alloc_new wr.drew _
      have ho4 : OwnB w4 (.slice (some ⟨wr.heap.size, 0, none⟩) 256 256) zeroSec.1 := OwnB.of_block hb4 (by rw [zeroSec.2]; decide) 256 zeroSec.2.symm
      have hF5 : Fr Non wr (w4.alloc (.cells (encS (some ⟨wr.heap.size, 0, none⟩, 256, 256)).toArray 30)) := hF4.alloc _
      have hR5 := hR.fr hF5 (Apart.non _)
      obtain ⟨b5, cap5, w5, hrun5, ho5, hgr5, hlies5, hlt5⟩ := run_append_one elem30 (t := 42) (ty := 42) Try.underlying42 hR5.own (g := w4.heap.size) (x := (some ⟨wr.heap.size, 0, none⟩, 256, 256)) (heap_alloc_new w4 _) (by unfold maxLen; omega) (by omega)
      have hgrF : Fr (fun b => (Value.slice a3 k c3).ownBlock = some b) (w4.alloc (.cells (encS (some ⟨wr.heap.size, 0, none⟩, 256, 256)).toArray 30)) w5 := (Fr.refl _ _).grown hgr5 (fun k hk _ => hk)
      have hR6 := hR5.snoc (w2 := w5) (v' := .slice (some ⟨b5, 0, none⟩) (ss.length + 1) cap5) (g := wr.heap.size) (cap := 256) (ho4.fr ((Fr.refl Non w4).alloc _) (fun _ _ h => h)) hQ (by have := hF5.size; omega)
        (fun i t ht e => by
          obtain ⟨g', c', e', ho', _⟩ := hR.el i t ht
          rw [e'] at e
          have := OwnB.lt ho'
          have e2 : g' = wr.heap.size := by injection e with e; injection e
          omega) ho5 hgr5 (fun b hb => by
            have e : b5 = b := Option.some.inj hb
            rcases hlies5 with h | h
            · exact .inl (by rw [← e]; exact h)
            · exact .inr (by omega))
      rw [hsl] at hR6 hrun5
      have hnb : ∀ q, q < w2.heap.size → ¬ (Value.slice a3 k c3).ownBlock = some q := fun q hq e => by have := hR.vb q e; omega
      have hB6 := hgrF.keep (hF5.keep hB (fun h => h)) (hnb _ hs12)
      have hZ6 := hgrF.keep (hF5.keep hZ (fun h => h)) (hnb _ (by omega))
      have hB7 : (w5.setCell ⟨w1.heap.size, 0, none⟩ (.slice (some ⟨b5, 0, none⟩) (k + 1) cap5)).heap[w1.heap.size]? = some (.cells (refL (.slice (some ⟨b5, 0, none⟩) (k + 1) cap5) (.slice none 0 0) (Dsk.fresh N)).toArray 45) := by rw [heap_setCell_at hB6]; rfl
      have hF7 : Fr (· = w1.heap.size) w5 (w5.setCell ⟨w1.heap.size, 0, none⟩ (.slice (some ⟨b5, 0, none⟩) (k + 1) cap5)) := (Fr.refl (· = w1.heap.size) w5).setCell _ _ (fun _ => rfl)
      have hA7 : Apart w5 (· = w1.heap.size) := by
        rintro q rfl cs
        rw [hB6]; exact ⟨by simp, by simp, by simp⟩
      have H7 := Lib.hid (And.intro (hR6.fr hF7 hA7) (And.intro hB7 (And.intro (hF7.keep hZ6 (by omega)) (And.intro (((hG.trans hF5 (fun _ _ h => h)).trans hgrF (fun i hi e => absurd e (hnb i (by omega)))).trans hF7 (fun i hi e => by exfalso; omega)) (Nat.le_trans (Nat.le_trans hQ hF5.size) (Nat.le_trans hgrF.size hF7.size))))))
      have d6 : w5.cell? ⟨w1.heap.size, 0, none⟩ = some (.slice a3 k c3) := cellOf hB6 0 rfl
      have f6 : w5.frozen? ⟨w1.heap.size, 0, none⟩ = false := frozenOf hB6 0
      have hS0 : ∀ W, Fr Non wr W → W.cell? ⟨w1.heap.size, 0, none⟩ = some (.slice a3 k c3) := fun W hW => hW.cell c0 (fun h => h)
      have HS := Lib.hid hS0
      have HF4 := Lib.hid hF4
      have HF5 := Lib.hid hF5
      have HRUN5 := Lib.hid hrun5
      have HMK := Lib.hid hmk
      have HSL := Lib.hid hsl
      have hkN : (k : Int) < (N : Int) := by omega
      clear hR hB hZ hG hQ hs01 hs12 hmk hF4 hb4 ho4 hF5 hR5 hrun5 ho5 hgr5 hlies5 hlt5 hgrF hR6 hnb hB6 hZ6 hB7 hF7 hA7 hS0 hsl
      go_wp2_with fail
      refine rc (fun W => W.cell? ⟨w1.heap.size, 0, none⟩ = some (.slice a3 k c3)) 4 (by kernel_rfl) ?_
      have hS := HS.out wr.drew ((Fr.refl _ _).drew)
      refine tc (i := 0) (v := .pointer (some ⟨w1.heap.size, 0, none⟩)) rfl 8 (by kernel_rfl) (fun _ _ _ h => h) rfl (fun W0 hw => by unfold RunV; go_simp) hS ?_
      simp only [Act.put, List.setIfInBounds_toArray, List.set_cons_zero, List.set_cons_succ]
      refine tc (i := 1) (v := .slice a3 k c3) rfl 8 (by kernel_rfl) (fun _ _ _ h => h) rfl (fun W0 hw => by unfold RunV; go_simp) hS ?_
      simp only [Act.put, List.setIfInBounds_toArray, List.set_cons_zero, List.set_cons_succ]
      clear hS
      refine oc3 (i := 2) rfl (by kernel_rfl) rfl (HS.out _ HF4.out) (r_makeSlice rfl rfl rfl HMK.out) ?_
      simp only [Act.put, List.setIfInBounds_toArray, List.set_cons_zero, List.set_cons_succ]
      refine oc3 (i := 3) rfl (by kernel_rfl) rfl (w' := w4.alloc (.cells (encS (some ⟨wr.heap.size, 0, none⟩, 256, 256)).toArray 30)) (HS.out _ HF5.out) (r_buildSlice (vs := [(0, .slice (some ⟨wr.heap.size, 0, none⟩) 256 256)]) rfl rfl (buildSlice42 w4 (some ⟨wr.heap.size, 0, none⟩, 256, 256))) ?_
      simp only [Act.put, List.setIfInBounds_toArray, List.set_cons_zero, List.set_cons_succ]
      refine oc2 (i := 4) rfl (by kernel_rfl) rfl (by kernel_rfl) (r_builtin (vs := [.slice a3 k c3, .slice (some ⟨w4.heap.size, 0, none⟩) 1 1]) rfl rfl (builtin_append HRUN5.out)) ?_
      simp only [Act.put, List.setIfInBounds_toArray, List.set_cons_zero, List.set_cons_succ]
      refine oc2 (i := 5) (w' := w5) (v := .pointer (some ⟨w1.heap.size, 0, none⟩)) rfl (by kernel_rfl) rfl (by kernel_rfl) (by unfold RunV; go_simp) ?_
      simp only [Act.put, List.setIfInBounds_toArray, List.set_cons_zero, List.set_cons_succ]
      refine oc2u (i := 6) (w' := w5.setCell ⟨w1.heap.size, 0, none⟩ (.slice (some ⟨b5, 0, none⟩) (k + 1) cap5)) rfl (by kernel_rfl) rfl (by kernel_rfl) (by unfold RunU; go_simp) ?_
      refine dc (by kernel_rfl) ?_
      clear d6 f6 c0
      generalize w5.setCell ⟨w1.heap.size, 0, none⟩ (.slice (some ⟨b5, 0, none⟩) (k + 1) cap5) = W8 at *
      go_wp2
      go_roundw
      case rel => exact ⟨k + 1, by omega, by go_num, _, _, by simp [HSL.out], H7.out⟩
      case measure => simp [intOf] <;> omega
    · obtain rfl : k = N := by omega
      have hAp : Apart wr (· = w.heap.size) := by
        rintro j rfl cs
        rw [hZ]; exact ⟨by simp, by simp, by simp⟩
      have hFb : Fr (· = w.heap.size) wr (wr.setCells w.heap.size 0 (refL (.slice a3 k c3) (.slice none 0 0) (Dsk.fresh k))) := Fr.setCells (S := (· = w.heap.size)) _ (fun _ => rfl) _ _ _ (Fr.refl _ _)
      have hat : RefAt (wr.setCells w.heap.size 0 (refL (.slice a3 k c3) (.slice none 0 0) (Dsk.fresh k))) (.slice a3 k c3) (.slice none 0 0) (Dsk.fresh k) :=
        RefNew.at (B := w2.heap.size) ⟨ss, [], hR.fr hFb hAp, by rw [hsl]; rfl, WrsAt.nil _ _, fun i j s y _ hy => (by cases hy)⟩
      have HR1 := Lib.hid (rangeAt_of hB 0 (refL (.slice a3 k c3) (.slice none 0 0) (Dsk.fresh k)) (by simp))
      have HT1 := Lib.hid (there45 hZ rfl)
      have HP1 := Lib.hid (put45 hZ rfl (l := refL (.slice a3 k c3) (.slice none 0 0) (Dsk.fresh k)) rfl)
      have HFIN := Lib.hid (And.intro hat (hG.trans hFb (fun i hi e => by exfalso; omega)))
      have HONE := Lib.hid (refL_one hat (Dsk.fresh k))
      clear hR hB hZ hG hQ hAp hFb hlt hk hat hs01 hs12 c0 hsl
      go_wp2_with (first
        | (guard_target =~ wpList _ _ _ (⟨_, Op.load 45 _, _, _, _, _⟩ :: _) _ _; refine wl rfl (r_load (b := w1.heap.size) (i := 0) rfl rfl HR1.out Try.underlying45 rfl (by rw [sz45]; rfl)) ?_)
        | (guard_target =~ wpList _ _ _ (⟨_, Op.store 45 _ _, _, _, _, _⟩ :: _) _ _; refine wu rfl (r_store (b := w.heap.size) (i := 0) (cs := refL (.slice a3 k c3) (.slice none 0 0) (Dsk.fresh k)) rfl rfl rfl HT1.out (by rw [sz45]; rfl) HONE.out) ?_; generalize wr.setCells w.heap.size 0 (refL (.slice a3 k c3) (.slice none 0 0) (Dsk.fresh k)) = W9 at *)
        | fail)
      refine bodyPost_ret (results_cell_tmp rfl _ _ w.heap.size 45 _ (0, 0) _ _ rfl HP1.out rfl Try.underlying45 rfl (by rw [sz45]; rfl)) rfl ⟨_, _, rfl, HFIN.out.1, HFIN.out.2⟩
end Go.Proofs.Yticgkbpmaakkiaa
