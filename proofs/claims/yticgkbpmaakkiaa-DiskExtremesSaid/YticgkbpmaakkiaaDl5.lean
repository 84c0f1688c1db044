/-
  DiskExtremes: the walk.
-/
import Derived.Test.YticgkbpmaakkiaaDl4
namespace Go.Proofs.Yticgkbpmaakkiaa
open Go.RowKit

/-! ### every choice Whole; every choice Lost -/
theorem lost_at (D : Dsk) (i : Int) : ∀ k, (D.restartTo [] k).at i = D.at i
  | 0 => rfl
  | k + 1 => by
    unfold Dsk.restartTo
    split
    · rename_i x hx
      rw [store_at]
      split
      · rename_i h
        have e : fateOf ((D.restartTo [] k).at x.1) x.2 (([] : List UInt8).getD k 0) = (D.restartTo [] k).at x.1 := rfl
        rw [e, ← h]; exact lost_at D i k
      · exact lost_at D i k
    · exact lost_at D i k
theorem lost_see (D : Dsk) (i : Int) : ({ D with down := true }.restart []).see i = D.at i := lost_at { D with down := true } i D.pend.length
theorem whole_at (D : Dsk) (i : Int) (L : Nat) (hL : L = D.pend.length) : ∀ k, k ≤ L → (D.restartTo (List.replicate L 1) k).at i = seen i (D.pend.take k) (D.at i)
  | 0, _ => rfl
  | k + 1, hk => by
    have ih := whole_at D i L hL k (by omega)
    obtain ⟨x, hx⟩ : ∃ x, D.pend[k]? = some x := ⟨_, List.getElem?_eq_getElem (by omega)⟩
    unfold Dsk.restartTo
    rw [hx, List.take_add_one, hx, seen_append]
    have e1 : (List.replicate L (1 : UInt8)).getD k 0 = 1 := by simp [List.getD, List.getElem?_replicate, show k < L by omega]
    simp only [e1]
    rw [store_at]
    show (if i = x.1 then x.2 else _) = (if x.1 = i then x.2 else _)
    by_cases h : i = x.1
    · subst h; simp
    · rw [if_neg h, if_neg (fun e => h e.symm), ih]
theorem whole_see (D : Dsk) (i : Int) : ({ D with down := true }.restart (List.replicate D.pend.length 1)).see i = D.see i := by
  have := whole_at { D with down := true } i D.pend.length rfl D.pend.length (Nat.le_refl _)
  show ({ D with down := true }.restartTo (List.replicate D.pend.length 1) D.pend.length).at i = _
  rw [this]
  show seen i (D.pend.take D.pend.length) _ = _
  rw [List.take_length]; rfl

theorem buildSlice30_1 (w : World) : (Instr.buildSlice 30 1 #[(0, .int .u8 1)]).run Try.prog w = .ok (.slice (some ⟨w.heap.size, 0, none⟩) 1 1) (w.alloc (.cells #[.int .u8 1] 5)) :=
  run_buildSlice_all (P := Try.prog) (w := w) (t := 30) (e := 5) (s := 1) (vs := [.int .u8 1]) Try.underlying30 sz5 (zero5 w) (by intro v hv; rw [List.mem_singleton.1 hv]; rfl) (by simp)

theorem Fr.either {S T : Nat → Prop} {a b c : World} (h : Fr S a b) (k : Fr T b c) : Fr (fun i => S i ∨ T i) a c := (h.mono (fun _ _ e => .inl e)).trans k (fun _ _ e => .inr e)

set_option maxRecDepth 100000 in
theorem Extremes_big (w : World) (s : Nat) (a : Option Addr) (len cap : Nat) (h : 40 < len) :
    Calls Try.prog 6 #[.int .u8 s, .slice a len cap] w fun e w' => e = .returned (.bool true) ∧ Fr Non w w' := by
  have e4 : decide (len ≤ 40) = false := decide_eq_false (by omega)
  clear h
  go_enter Try.func6, Try.ntmps6
  go_wp2_with (first
    | (go_at_call 11; refine (known_c w).mono ?_; rintro e w1 ⟨rfl, hF1⟩; have HF1 := Lib.hid hF1; clear hF1)
    | (go_at_call 11; refine (known_c w1).mono ?_; rintro e w9 ⟨rfl, hF9⟩; have HF9 := Lib.hid hF9; clear hF9)
    | (go_at_call 22; refine (small_c _ _ _ _).mono ?_; rintro e w2 ⟨rfl, rfl⟩)
    | fail)
  go_ret
  exact ⟨rfl, HF1.out.trans HF9.out (fun _ _ h => h)⟩

set_option maxRecDepth 100000 in
set_option maxHeartbeats 2000000 in
theorem Extremes_small (w : World) (s : Nat) (hs : s < 256) (a : Option Addr) (cap : Nat) (os : List OpX) (hl : os.length ≤ 40) (ho : OpsAt w a os) :
    Calls Try.prog 6 #[.int .u8 s, .slice a os.length cap] w fun e w' => e = .returned (.bool true) ∧ Fr Non w w' := by
  have e4 : decide (os.length ≤ 40) = true := decide_eq_true hl
  have HO := Lib.hid ho
  have HL := Lib.hid hl
  clear ho hl
  go_enter Try.func6, Try.ntmps6
  go_wp2_with (first
    | (go_at_call 11; refine (known_c w).mono ?_; rintro e w1 ⟨rfl, hF1⟩; have HF1 := Lib.hid hF1; clear hF1)
    | (go_at_call 22; refine (small_c _ _ _ _).mono ?_; rintro e w2 ⟨rfl, rfl⟩)
    | (go_at_call 23; go_loud (refine (run_any w1 _ (by omega) (by omega) a cap os HL.out (HO.out.non HF1.out)).mono ?_; rintro e w2 ⟨D, p, m, pv, dv, wv, rfl, hB2, hF2, hpl, hn⟩; have HB2 := Lib.hid hB2; have HF2 := Lib.hid hF2; have HPL := Lib.hid hpl; clear hB2 hF2 hpl hn))
    | (guard_target =~ wpList _ _ _ (⟨_, Op.alloc 45, _, _, _, _⟩ :: _) _ _; refine wl rfl (r_allocA rfl (zero45 _)) ?_; have HN3 := Lib.hid (heap_alloc_new w2 (.cells zref 45)); have HF3 := Lib.hid ((Fr.refl Non w2).alloc (.cells zref 45)); obtain ⟨w3, hw3⟩ : ∃ w3, w2.alloc (.cells zref 45) = w3 := ⟨_, rfl⟩; rw [hw3]; rw [hw3] at HN3 HF3; have HW3 := Lib.hid hw3; clear hw3)
    | (guard_target =~ wpList _ _ _ (⟨_, Op.store 45 _ _, _, _, _, _⟩ :: _) _ w3; refine wu rfl (r_store (b := w2.heap.size) (i := 0) (cs := refL dv wv D) rfl rfl rfl (there45 HN3.out rfl) (by rw [sz45]; rfl) (refL_one HB2.out.r _)) ?_; have HN4 := Lib.hid (put45 HN3.out rfl (l := refL dv wv D) rfl); have HB4 := Lib.hid ((HB2.out.non HF3.out).put HN3.out (refL dv wv D)); have HF4 : Hid (Fr Non w (w3.setCells w2.heap.size 0 (refL dv wv D))) := Fr.setCells _ (fun h => by have := HF2.out.size; have := HF1.out.size; omega) _ _ _ ((HF1.out.trans HF2.out (fun _ _ h => h)).trans HF3.out (fun _ _ h => h)); generalize w3.setCells w2.heap.size 0 (refL dv wv D) = w4 at *)
    | (go_at_call 26; go_loud (refine (Clone_c w4 p m pv D HB4.out.d (by have := HPL.out; omega)).mono ?_; rintro e w5 ⟨p', m', pv', rfl, hd5, hF5, hn5⟩; have HD5 := Lib.hid hd5; have HF5 := Lib.hid hF5; have HN5 := Lib.hid hn5; have HB5 := Lib.hid (HB4.out.non hF5); have HN6 := Lib.hid (hF5.keep HN4.out (fun h => h)); clear hd5 hF5 hn5))
    | fail)
  have HF05 : Hid (Fr Non w w5) := HF4.out.trans HF5.out (fun _ _ h => h)
  have HSZ : Hid (w.heap.size ≤ w4.heap.size ∧ w4.heap.size ≤ w5.heap.size ∧ w2.heap.size < w4.heap.size ∧ w.heap.size ≤ w2.heap.size) := ⟨HF4.out.size, HF5.out.size, heap_lt HN4.out, Nat.le_trans HF1.out.size HF2.out.size⟩
  generalize w2.heap.size = b6 at *
  obtain ⟨aw, cw, rfl⟩ := HB5.out.r.wv
  have hp40 : (D.pend.length : Int) ≤ 40 := by have := HPL.out; omega
  go_loopw [9, 10] (fun v i wr => ∃ k : Nat, i = .int .i64 k ∧ k ≤ D.pend.length ∧ OwnB wr v (List.replicate k 1) ∧ (∀ b, v.ownBlock = some b → w5.heap.size ≤ b) ∧ Fr Non w5 wr) (fun _ i _ => D.pend.length - (intOf i).toNat)
  case atStart => exact ⟨0, rfl, Nat.zero_le _, Own.nil _ _ _ _, (fun b h => by cases h), Fr.refl _ _⟩
  case round =>
    obtain ⟨k, rfl, hk, hV, hVn, hF⟩ := hrel
    have c1 : wr.cell? ⟨b6, 1, none⟩ = some (.slice aw D.pend.length cw) := cellOf (hF.keep HN6.out (fun h => h)) 1 rfl
    have HV := Lib.hid hV
    have HVN := Lib.hid hVn
    have HF := Lib.hid hF
    clear hV hVn hF
    by_cases hlt : k < D.pend.length
    · obtain ⟨av, cv, rfl, -, -, -⟩ := Own.shape HV.out
      rw [List.length_replicate] at HV HVN ⊢
      have HLT := Lib.hid hlt
      have hF1 : Fr Non wr (wr.alloc (.cells #[.int .u8 1] 5)) := (Fr.refl _ wr).alloc _
      have ho2 := HV.out.fr hF1 (fun _ _ h => h)
      obtain ⟨g4, cap4, w6, hrun, hown, hgr, hlies, hglt⟩ := run_append_one elem5 (t := 30) (ty := 30) Try.underlying30 (w := wr.alloc (.cells #[.int .u8 1] 5)) ho2 (g := wr.heap.size) (x := 1) (heap_alloc_new wr _) (by unfold maxLen; rw [List.length_replicate]; omega) (by rw [List.length_replicate]; omega)
      rw [List.length_replicate] at hrun hown
      have hF6 : Fr Non w5 w6 := (HF.out.trans hF1 (fun _ _ h => h)).grown hgr (fun b hb hlt => absurd (HVN.out b hb) (by omega))
      have HRUN := Lib.hid hrun
      have HX := Lib.hid (And.intro hown (And.intro hlies hF6))
      have HSR := Lib.hid HF.out.size
      clear ho2 hrun hown hgr hlies hglt hF6 hF1
      go_wp2_with (first
        | (guard_target =~ wpList _ _ _ (⟨_, Op.buildSlice _ _ _, _, _, _, _⟩ :: _) _ _; refine wl rfl (r_buildSlice (vs := [(0, .int .u8 1)]) rfl rfl (buildSlice30_1 wr)) ?_)
        | (at_builtin; refine wl rfl (r_builtin (vs := [.slice av k cv, .slice (some ⟨wr.heap.size, 0, none⟩) 1 1]) rfl rfl (builtin_append HRUN.out)) ?_)
        | fail)
      go_roundw
      case rel =>
        refine ⟨k + 1, by go_num, by have := HLT.out; omega, ?_, fun b hb => ?_, HX.out.2.2⟩
        · rw [List.replicate_succ']; exact HX.out.1
        · have e : g4 = b := Option.some.inj hb
          rcases HX.out.2.1 with h | h
          · exact HVN.out b (by rw [h, e])
          · have := HSR.out; simp at h; omega
      case measure => have := HLT.out; simp [intOf] <;> omega
    · obtain rfl : k = D.pend.length := by omega
      obtain ⟨av, cv, rfl, -, -, -⟩ := Own.shape HV.out
      rw [List.length_replicate] at HV HVN ⊢
      have HBW := Lib.hid (OwnB.bytes HV.out)
      go_wp2_with (first
        | (go_at_call 24; refine (Fail_c wr p m pv D (HB5.out.d.fr HF.out (fun _ _ h => h))).mono ?_; rintro e w6 ⟨rfl, hd6, hF6⟩; have HD6 := Lib.hid hd6; have HF6 := Lib.hid hF6; clear hd6 hF6)
        | (go_at_call 24; go_loud (refine (Fail_c w6 p' m' pv' D ((HD5.out.fr HF.out (fun _ _ h => h)).fr HF6.out (fun k hk e => (by have := HN5.out k hk; have := foot_lt HB4.out.d (.inl e); omega)))).mono ?_; rintro e w7 ⟨rfl, hd7, hF7⟩; have HD7 := Lib.hid hd7; have HF7 := Lib.hid hF7; clear hd7 hF7))
        | fail)
      have k1 : DiskAt w7 p m pv { D with down := true } := HD6.out.fr HF7.out (fun k hk e => (by have := HN5.out k (.inl e); have := foot_lt HB4.out.d hk; omega))
      have k2 : D.pend.length ≤ 100000 := by have := HPL.out; omega
      have k3 : BytesAt w7 (.slice av D.pend.length cv) (List.replicate D.pend.length 1) := (HBW.out.fr HF6.out (fun k hk e => (by have := HVN.out k hk; have := foot_lt HB4.out.d (.inl e); have := HSZ.out; omega))).fr HF7.out (fun k hk e => (by have := HVN.out k hk; have := foot_lt HD5.out (.inl e); omega))
      have k4 : ∀ k, (Value.slice av D.pend.length cv).ownBlock = some k → k ≠ m := fun k hk e => (by have := HVN.out k hk; have := foot_lt HB4.out.d (.inr (.inl e)); have := HSZ.out; omega)
      have k5 : (List.replicate D.pend.length (1 : UInt8)).length ≤ 9223372036854775807 := by rw [List.length_replicate]; omega
      have HK := Lib.hid (Restart_ok w7 p m pv { D with down := true } _ _ k1 rfl k2 k3 (.inr k4) k5)
      clear k1 k3 k4 k5
      refine HK.out.mono ?_
      rintro e w8 ⟨rfl, hS8⟩
      have HS8 := Lib.hid hS8
      have HK2 := Lib.hid (Restart_ok w8 p' m' pv' { D with down := true } (.slice none 0 0) [] (HD7.out.fr HS8.out.choose_spec.2.1 (fun k hk e => (by have := HN5.out k hk; have := foot_lt HB4.out.d e; omega))) rfl k2 (BytesAt.nil _) (.inl rfl) (Nat.zero_le _))
      clear hS8 k2
      go_wp2_with (first
        | (go_at_call 25; refine HK2.out.mono ?_; rintro e w9 ⟨rfl, hS9⟩; have HS9 := Lib.hid hS9; clear hS9)
        | fail)
      have hX : ∃ pv8 pv9, DiskAt w9 p m pv8 ({ D with down := true }.restart (List.replicate D.pend.length 1)) ∧ DiskAt w9 p' m' pv9 ({ D with down := true }.restart []) ∧ w9.heap[b6]? = some (.cells (refL dv (.slice aw D.pend.length cw) D).toArray 45) ∧ RefAt w9 dv (.slice aw D.pend.length cw) D ∧ Fr Non w w9 := by
        obtain ⟨pv8, hd8, hF8, ho8⟩ := HS8.out
        obtain ⟨pv9, hd9, hF9, ho9⟩ := HS9.out
        have s6 : w5.heap.size ≤ w7.heap.size := Nat.le_trans HF.out.size (Nat.le_trans HF6.out.size HF7.out.size)
        have hfe : Fr (fun k => Foot p m pv k ∨ Foot p' m' pv' k) w5 w9 :=
          ((((HF.out.mono (fun _ _ h => h.elim)).trans (HF6.out.mono (fun _ _ e => .inl (.inl e))) (fun _ _ h => h)).trans (HF7.out.mono (fun _ _ e => .inr (.inl e))) (fun _ _ h => h)).trans (hF8.mono (fun _ _ e => .inl e)) (fun _ _ h => h)).trans (hF9.mono (fun _ _ e => .inr e)) (fun _ _ h => h)
        refine ⟨pv8, pv9, hd8.fr hF9 (fun k hk e => ?_), hd9, ?_, HB5.out.r.fr hfe (fun k hk => ?_), HF05.out.trans hfe (fun i hi e => ?_)⟩
        · have q1 := HN5.out k e
          have q2 := foot_lt HD5.out e
          rcases hk with h | h | h
          · have := foot_lt HB4.out.d (.inl h); omega
          · have := foot_lt HB4.out.d (.inr (.inl h)); omega
          · rcases ho8 k h with h | h
            · have := foot_lt HB4.out.d (.inr (.inr h)); omega
            · omega
        · refine hfe.keep HN6.out (fun e => ?_)
          rcases e with e | e
          · exact HB4.out.d.no45 HN4.out e
          · have := HN5.out _ e; have := HSZ.out; omega
        · rcases hk with hk | hk
          · exact HB5.out.d.apart k hk
          · exact HD5.out.apart k hk
        · have := HSZ.out
          rcases e with e | e
          · have := HB4.out.foot i e; have := HF1.out.size; omega
          · have := HN5.out i e; omega
      obtain ⟨pv8, pv9, hd8, hd9, hn9, hR9, hF9⟩ := hX
      have HRA := Lib.hid hR9
      obtain ⟨ss, ys, hR⟩ := hR9
      have HOK := Lib.hid HB4.out.ok
      obtain ⟨gd, cd, rfl, hcell⟩ := hR.dvAt HOK.out.n0
      have HSS := Lib.hid (show (ss.length : Int) = D.n from hR.nd)
      have HDA := Lib.hid hd8
      have HDB := Lib.hid hd9
      have HN9 := Lib.hid hn9
      have HR9 := Lib.hid hR
      have HCELL := Lib.hid hcell
      have HF9 := Lib.hid hF9
      clear hd8 hd9 hn9 hR hcell hF9 HS8 HS9 HD6 HD7 HN4 HB2 HN3 HW3 HBW HVN HV HF hlt
      go_loopw [11] (fun i wr => ∃ k : Nat, i = .int .i64 k ∧ k ≤ ss.length ∧ Fr Non w9 wr) (fun i _ => ss.length - (intOf i).toNat)
      case atStart => exact ⟨0, rfl, Nat.zero_le _, Fr.refl _ _⟩
      case round =>
        obtain ⟨k, rfl, hk, hF⟩ := hrel
        have c0 : wr.cell? ⟨b6, 0, none⟩ = some (.slice (some ⟨gd, 0, none⟩) ss.length cd) := cellOf (hF.keep HN9.out (fun h => h)) 0 rfl
        have HF := Lib.hid hF
        clear hF
        by_cases hlt : k < ss.length
        · obtain ⟨x, hx⟩ : ∃ x, ss[k]? = some x := ⟨_, List.getElem?_eq_getElem hlt⟩
          obtain ⟨gs, cs', rfl, hob⟩ := HR9.out.bd k x hx
          have HLT := Lib.hid hlt
          have hkn : (k : Int) < D.n := by have := HSS.out; omega
          have HKN := Lib.hid hkn
          have hk40 : (k : Int) ≤ 4096 := by have := HOK.out.n1; omega
          have HOB := Lib.hid hob
          have HH1 : Hid (({ D with down := true }.restart (List.replicate D.pend.length 1)).has k = true) := by
            have e : ({ D with down := true }.restart (List.replicate D.pend.length 1)).n = D.n := (restartTo_keeps { D with down := true } _ _).2.1
            unfold Dsk.has
            rw [e]
            exact decide_eq_true (by omega)
          have HH2 : Hid (({ D with down := true }.restart []).has k = true) := by
            have e : ({ D with down := true }.restart []).n = D.n := (restartTo_keeps { D with down := true } _ _).2.1
            unfold Dsk.has
            rw [e]
            exact decide_eq_true (by omega)
          have HD1 := Lib.hid (HDA.out.fr HF.out (fun _ _ h => h))
          have HE1 := Lib.hid (whole_see D k)
          have HE2 := Lib.hid (lost_see D k)
          have HX := Lib.hid hx
          have HK1 := Lib.hid (Read_ok wr p m pv8 _ k HD1.out rfl HH1.out (Nat.zero_le _))
          clear hob hkn hx
          go_wp2_with (first
            | (go_at_call 17; (with_reducible refine HK1.out.mono ?_); go_loud (rintro e wy ⟨g1, rfl, hg1, hgl1, hF1⟩; rw [HE1.out] at hg1; have HG1 := Lib.hid hg1; have HFY := Lib.hid hF1; have HD2 := Lib.hid (HDB.out.fr (HF.out.trans hF1 (fun _ _ h => h)) (fun _ _ h => h)); have c0' := hF1.cell c0 (fun h => h); have HK2 := Lib.hid (Read_ok wy p' m' pv9 _ k HD2.out rfl HH2.out (Nat.zero_le _)); clear hg1 hF1))
            | (go_at_call 17; (with_reducible refine HK2.out.mono ?_); go_loud (rintro e wz ⟨g2, rfl, hg2, hgl2, hF2⟩; rw [HE2.out] at hg2; have HG2 := Lib.hid hg2; have HFZ := Lib.hid hF2; clear hg2 hF2))
            | fail)
          have hFz : Fr Non w9 wz := (HF.out.trans HFY.out (fun _ _ h => h)).trans HFZ.out (fun _ _ h => h)
          have HFz := Lib.hid hFz
          have HS : Hid (∀ W, Fr Non wz W → (fun W : World => BytesAt W (.slice (some ⟨g1, 0, none⟩) 256 256) (D.see k).1 ∧ BytesAt W (.slice (some ⟨g2, 0, none⟩) 256 256) (D.at k).1 ∧ W.rangeAt b6 0 (refL (.slice (some ⟨gd, 0, none⟩) ss.length cd) (.slice aw D.pend.length cw) D) ∧ W.cell? ⟨b6, 0, none⟩ = some (.slice (some ⟨gd, 0, none⟩) ss.length cd) ∧ W.cell? ⟨gd, k, none⟩ = some (.slice (some ⟨gs, 0, none⟩) 256 cs') ∧ BytesAt W (.slice (some ⟨gs, 0, none⟩) 256 cs') (D.at k).1) W) := fun W hW =>
            ⟨(BytesAt.of_block HG1.out 256 256 (D.see k).2.symm).fr (HFZ.out.trans hW (fun _ _ h => h)) (fun _ _ h => h), (BytesAt.of_block HG2.out 256 256 (D.at k).2.symm).fr hW (fun _ _ h => h), rangeAt_of ((hFz.trans hW (fun _ _ h => h)).keep HN9.out (fun h => h)) 0 _ (by simp),
              cellOf ((hFz.trans hW (fun _ _ h => h)).keep HN9.out (fun h => h)) 0 rfl, (hFz.trans hW (fun _ _ h => h)).cell (HCELL.out k _ HX.out) (fun h => h), (OwnB.bytes HOB.out).fr (hFz.trans hW (fun _ _ h => h)) (fun _ _ h => h)⟩
          have HRAT : Hid (RefAt wz.drew (.slice (some ⟨gd, 0, none⟩) ss.length cd) (.slice aw D.pend.length cw) D) := HRA.out.non hFz.drew
          clear hFz c0 c0'
          refine rc (fun W : World => BytesAt W (.slice (some ⟨g1, 0, none⟩) 256 256) (D.see k).1 ∧ BytesAt W (.slice (some ⟨g2, 0, none⟩) 256 256) (D.at k).1 ∧ W.rangeAt b6 0 (refL (.slice (some ⟨gd, 0, none⟩) ss.length cd) (.slice aw D.pend.length cw) D) ∧ W.cell? ⟨b6, 0, none⟩ = some (.slice (some ⟨gd, 0, none⟩) ss.length cd) ∧ W.cell? ⟨gd, k, none⟩ = some (.slice (some ⟨gs, 0, none⟩) 256 cs') ∧ BytesAt W (.slice (some ⟨gs, 0, none⟩) 256 cs') (D.at k).1) 24 (by kernel_rfl) ?_
          have hS : (fun W : World => BytesAt W (.slice (some ⟨g1, 0, none⟩) 256 256) (D.see k).1 ∧ BytesAt W (.slice (some ⟨g2, 0, none⟩) 256 256) (D.at k).1 ∧ W.rangeAt b6 0 (refL (.slice (some ⟨gd, 0, none⟩) ss.length cd) (.slice aw D.pend.length cw) D) ∧ W.cell? ⟨b6, 0, none⟩ = some (.slice (some ⟨gd, 0, none⟩) ss.length cd) ∧ W.cell? ⟨gd, k, none⟩ = some (.slice (some ⟨gs, 0, none⟩) 256 cs') ∧ BytesAt W (.slice (some ⟨gs, 0, none⟩) 256 cs') (D.at k).1) wz.drew := HS.out _ ((Fr.refl Non wz).drew)
          refine tp (i := 0) (v := .int .i64 0) rfl (by kernel_rfl) (fun _ _ _ h => h) rfl (fun W0 => r_move rfl rfl) (.inr hS) ?_
          simp only [Act.put, List.setIfInBounds_toArray, List.set_cons_zero, List.set_cons_succ]
          refine tp (i := 1) (v := .bool false) rfl (by kernel_rfl) (fun _ _ _ h => h) rfl (fun W0 => by unfold RunV; go_simp) (.inr hS) ?_
          simp only [Act.put, List.setIfInBounds_toArray, List.set_cons_zero, List.set_cons_succ]
          refine tp (i := 2) (v := .bool false) rfl (by kernel_rfl) (fun _ _ _ h => h) rfl (fun W0 => by unfold RunV; go_simp) (.inr hS) ?_
          simp only [Act.put, List.setIfInBounds_toArray, List.set_cons_zero, List.set_cons_succ]
          refine tpg (i := 3) (v := .int .i64 0) rfl (by kernel_rfl) (fun _ _ _ h => h) rfl (fun W0 => by unfold RunV; go_simp) (.inr hS) ?_
          simp only [Act.put, List.setIfInBounds_toArray, List.set_cons_zero, List.set_cons_succ]
          refine tpg (i := 4) (v := .bool false) rfl (by kernel_rfl) (fun _ _ _ h => h) rfl (fun W0 => by unfold RunV; go_simp) (.inr hS) ?_
          simp only [Act.put, List.setIfInBounds_toArray, List.set_cons_zero, List.set_cons_succ]
          refine tp (i := 5) (v := .bool false) rfl (by kernel_rfl) (fun _ _ _ h => h) rfl (fun W0 => r_pick rfl rfl rfl) (.inr hS) ?_
          simp only [Act.put, List.setIfInBounds_toArray, List.set_cons_zero, List.set_cons_succ]
          refine tp (i := 6) (v := .bool false) rfl (by kernel_rfl) (fun _ _ _ h => h) rfl (fun W0 => by unfold RunV; go_simp) (.inr hS) ?_
          simp only [Act.put, List.setIfInBounds_toArray, List.set_cons_zero, List.set_cons_succ]
          refine tpg (i := 7) (v := .slice (some ⟨g1, 0, none⟩) 256 256) rfl (by kernel_rfl) (fun _ _ _ h => h) rfl (fun W0 => r_move rfl rfl) (.inr hS) ?_
          simp only [Act.put, List.setIfInBounds_toArray, List.set_cons_zero, List.set_cons_succ]
          refine tpg (i := 10) (v := .int .i64 (k : Int)) rfl (by kernel_rfl) (fun _ _ _ h => h) rfl (fun W0 => r_move rfl rfl) (.inr hS) ?_
          simp only [Act.put, List.setIfInBounds_toArray, List.set_cons_zero, List.set_cons_succ]
          refine tcg (i := 8) (v := .string (strOf (D.see k).1)) rfl 8 (by kernel_rfl) (fun _ _ _ h => h) rfl (fun W0 hw => r_convert (u := .slice (some ⟨g1, 0, none⟩) 256 256) rfl rfl (run_str Try.underlying30 Try.underlying5 Try.underlying9 hw.1)) hS ?_
          simp only [Act.put, List.setIfInBounds_toArray, List.set_cons_zero, List.set_cons_succ]
          refine tcg (i := 9) (v := .agg (refL (.slice (some ⟨gd, 0, none⟩) ss.length cd) (.slice aw D.pend.length cw) D).toArray) rfl 8 (by kernel_rfl) (fun _ _ _ h => h) rfl (fun W0 hw => r_load (b := b6) (i := 0) rfl rfl hw.2.2.1 Try.underlying45 rfl (by rw [sz45]; rfl)) hS ?_
          simp only [Act.put, List.setIfInBounds_toArray, List.set_cons_zero, List.set_cons_succ]
          refine og1 (i := 11) rfl (by kernel_rfl) rfl ?_
          unfold Oper.wp
          go_simp
          refine (Visible_ref wz.drew (.slice (some ⟨gd, 0, none⟩) ss.length cd) (.slice aw D.pend.length cw) D k HOK.out HKN.out HRAT.out).mono ?_
          rintro e w9' ⟨g9, cap9, rfl, ho9, hF9, -⟩
          have hS9 : (fun W : World => BytesAt W (.slice (some ⟨g1, 0, none⟩) 256 256) (D.see k).1 ∧ BytesAt W (.slice (some ⟨g2, 0, none⟩) 256 256) (D.at k).1 ∧ W.rangeAt b6 0 (refL (.slice (some ⟨gd, 0, none⟩) ss.length cd) (.slice aw D.pend.length cw) D) ∧ W.cell? ⟨b6, 0, none⟩ = some (.slice (some ⟨gd, 0, none⟩) ss.length cd) ∧ W.cell? ⟨gd, k, none⟩ = some (.slice (some ⟨gs, 0, none⟩) 256 cs') ∧ BytesAt W (.slice (some ⟨gs, 0, none⟩) 256 cs') (D.at k).1) w9' := HS.out w9' ((Fr.refl Non wz).drew.trans hF9 (fun _ _ h => h))
          refine ⟨hS9, ?_⟩
          clear hS
          refine og3 (i := 12) (v := .string (strOf (D.see k).1)) rfl (by kernel_rfl) rfl hS9 (r_convert (u := .slice (some ⟨g9, 0, none⟩) 256 cap9) rfl rfl (run_str Try.underlying30 Try.underlying5 Try.underlying9 (OwnB.bytes ho9))) ?_
          simp only [Act.put, List.setIfInBounds_toArray, List.set_cons_zero, List.set_cons_succ]
          have hS := hS9
          refine tpg (i := 13) (v := .bool false) rfl (by kernel_rfl) (fun _ _ _ h => h) rfl (fun W0 => r_strNeq_same (l := (D.see k).1) rfl Try.underlying9 rfl rfl) (.inr hS) ?_
          simp only [Act.put, List.setIfInBounds_toArray, List.set_cons_zero, List.set_cons_succ]
          refine tp (i := 14) (v := .bool false) rfl (by kernel_rfl) (fun _ _ _ h => h) rfl (fun W0 => r_pick rfl rfl rfl) (.inr hS) ?_
          simp only [Act.put, List.setIfInBounds_toArray, List.set_cons_zero, List.set_cons_succ]
          refine tp (i := 15) (v := .bool false) rfl (by kernel_rfl) (fun _ _ _ h => h) rfl (fun W0 => r_move rfl rfl) (.inr hS) ?_
          simp only [Act.put, List.setIfInBounds_toArray, List.set_cons_zero, List.set_cons_succ]
          refine tpg (i := 16) (v := .slice (some ⟨g2, 0, none⟩) 256 256) rfl (by kernel_rfl) (fun _ _ _ h => h) rfl (fun W0 => r_move rfl rfl) (.inr hS) ?_
          simp only [Act.put, List.setIfInBounds_toArray, List.set_cons_zero, List.set_cons_succ]
          refine tpg (i := 18) (v := .pointer (some ⟨b6, 0, none⟩)) rfl (by kernel_rfl) (fun _ _ _ h => h) rfl (fun W0 => by unfold RunV; go_simp) (.inr hS) ?_
          simp only [Act.put, List.setIfInBounds_toArray, List.set_cons_zero, List.set_cons_succ]
          refine tpg (i := 20) (v := .int .i64 (k : Int)) rfl (by kernel_rfl) (fun _ _ _ h => h) rfl (fun W0 => r_move rfl rfl) (.inr hS) ?_
          simp only [Act.put, List.setIfInBounds_toArray, List.set_cons_zero, List.set_cons_succ]
          refine tcg (i := 17) (v := .string (strOf (D.at k).1)) rfl 8 (by kernel_rfl) (fun _ _ _ h => h) rfl (fun W0 hw => r_convert (u := .slice (some ⟨g2, 0, none⟩) 256 256) rfl rfl (run_str Try.underlying30 Try.underlying5 Try.underlying9 hw.2.1)) hS ?_
          simp only [Act.put, List.setIfInBounds_toArray, List.set_cons_zero, List.set_cons_succ]
          refine tcg (i := 19) (v := .slice (some ⟨gd, 0, none⟩) ss.length cd) rfl 8 (by kernel_rfl) (fun _ _ _ h => h) rfl (fun W0 hw => by obtain ⟨hw0, hw1, hw2, hw3, hw4, hw5⟩ := hw; unfold RunV; go_simp) hS ?_
          simp only [Act.put, List.setIfInBounds_toArray, List.set_cons_zero, List.set_cons_succ]
          refine tpg (i := 21) (v := .pointer (some ⟨gd, k, none⟩)) rfl (by kernel_rfl) (fun _ _ _ h => h) rfl (fun W0 => by unfold RunV; go_simp) (.inr hS) ?_
          simp only [Act.put, List.setIfInBounds_toArray, List.set_cons_zero, List.set_cons_succ]
          refine tcg (i := 22) (v := .slice (some ⟨gs, 0, none⟩) 256 cs') rfl 8 (by kernel_rfl) (fun _ _ _ h => h) rfl (fun W0 hw => by obtain ⟨hw0, hw1, hw2, hw3, hw4, hw5⟩ := hw; unfold RunV; go_simp) hS ?_
          simp only [Act.put, List.setIfInBounds_toArray, List.set_cons_zero, List.set_cons_succ]
          refine tcg (i := 23) (v := .string (strOf (D.at k).1)) rfl 8 (by kernel_rfl) (fun _ _ _ h => h) rfl (fun W0 hw => r_convert (u := .slice (some ⟨gs, 0, none⟩) 256 cs') rfl rfl (run_str Try.underlying30 Try.underlying5 Try.underlying9 hw.2.2.2.2.2)) hS ?_
          simp only [Act.put, List.setIfInBounds_toArray, List.set_cons_zero, List.set_cons_succ]
          refine og2 (i := 24) (v := .bool false) rfl (by kernel_rfl) rfl (by kernel_rfl) (r_strNeq_same (l := (D.at k).1) rfl Try.underlying9 rfl rfl) ?_
          simp only [Act.put, List.setIfInBounds_toArray, List.set_cons_zero, List.set_cons_succ]
          refine tp (i := 25) (v := .bool false) rfl (by kernel_rfl) (fun _ _ _ h => h) rfl (fun W0 => r_pick rfl rfl rfl) (.inl (by kernel_rfl)) ?_
          simp only [Act.put, List.setIfInBounds_toArray, List.set_cons_zero, List.set_cons_succ]
          refine dc (by kernel_rfl) ?_
          have HFn : Hid (Fr Non w9 w9') := (HFz.out.drew).trans hF9 (fun _ _ h => h)
          clear hS hS9 ho9 hF9
          go_wp2
          go_roundw
          case rel => exact ⟨k + 1, by go_num, by have := HLT.out; omega, HFn.out⟩
          case measure => have := HLT.out; simp [intOf] <;> omega
        · obtain rfl : k = ss.length := by omega
          go_wp2
          go_ret
          exact ⟨rfl, HF9.out.trans HF.out (fun _ _ h => h)⟩
end Go.Proofs.Yticgkbpmaakkiaa
