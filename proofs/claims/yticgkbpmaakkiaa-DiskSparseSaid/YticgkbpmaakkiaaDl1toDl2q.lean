/-
  What a run leaves, in short; units of sectors.
  DiskUnits: the walk.
-/
import Derived.Test.YticgkbpmaakkiaaDl0q

namespace Go.Proofs.Yticgkbpmaakkiaa
open Go.RowKit

def RunAny (w w' : World) (e : Ending) (n : Int) : Prop := ∃ D p m pv dv wv, e = .returned (.tuple #[.pointer (some ⟨p, 0, none⟩), .agg (refL dv wv D).toArray, .bool true]) ∧ Both w.heap.size w' p m pv dv wv D ∧ Fr Non w w' ∧ D.pend.length ≤ 40 ∧ D.n = n

theorem run_any (w : World) (n : Int) (h0 : 1 ≤ n) (h1 : n ≤ 4096) (a : Option Addr) (cap : Nat) (os : List OpX) (hl : os.length ≤ 40) (ho : OpsAt w a os) :
    Calls Try.prog 23 #[.int .i64 n, .slice a os.length cap] w fun e w' => RunAny w w' e n := by
  refine (run_c w n h0 h1 a cap os hl ho).mono ?_
  rintro e w' ⟨p, m, pv, dv, wv, he, hb, hF⟩
  obtain ⟨-, q, r⟩ := acts_ok os (Dsk.fresh n) 0 (fresh_ok n h0 h1) (Nat.zero_le _) (by omega) (fun y hy => (ho.2 y hy).2.2.2.2)
  exact ⟨_, p, m, pv, dv, wv, he, hb, hF, by omega, r⟩

/-! ### units -/
def seg (l : List UInt8) (z : Nat) : List UInt8 := (l.drop z).take 16

theorem seg_torn (s t : Sec) (n z : Nat) (hn : n % 16 = 0) (hz : z % 16 = 0) : seg (tornL s.1 t.1 n) z = if z < n then seg t.1 z else seg s.1 z := by
  have h1 := s.2
  have h2 := t.2
  unfold seg tornL
  split
  · rename_i h
    apply List.ext_getElem?
    intro i
    simp only [List.getElem?_take, List.getElem?_drop, List.getElem?_append, List.length_take]
    by_cases hi : i < 16
    · simp only [hi, if_true]
      by_cases hb : z + i < 256
      · rw [if_pos (by omega), if_pos (by omega)]
      · rw [if_neg (by omega)]
        rw [List.getElem?_eq_none (by omega), List.getElem?_eq_none (by omega)]
    · simp [hi]
  · rename_i h
    apply List.ext_getElem?
    intro i
    simp only [List.getElem?_take, List.getElem?_drop, List.getElem?_append, List.length_take]
    by_cases hi : i < 16
    · simp only [hi, if_true]
      rw [if_neg (by omega)]
      by_cases hb : n ≤ 256
      · congr 1; omega
      · rw [List.getElem?_eq_none (by omega), List.getElem?_eq_none (by omega)]
    · simp [hi]

theorem fateN_mod (c : UInt8) : fateN c % 16 = 0 := by
  unfold fateN tornN
  split
  · rfl
  · split
    · rfl
    · omega

theorem units_to (D : Dsk) (cs : List UInt8) (i : Int) (z : Nat) (hz : z % 16 = 0) : ∀ k, seg ((D.restartTo cs k).at i).1 z = seg (D.at i).1 z ∨ ∃ x ∈ D.pend, x.1 = i ∧ seg ((D.restartTo cs k).at i).1 z = seg x.2.1 z
  | 0 => .inl rfl
  | k + 1 => by
    have ih := units_to D cs i z hz k
    unfold Dsk.restartTo
    split
    · rename_i x hx
      rw [store_at]
      split
      · rename_i hi
        rw [fateOf_torn]
        show seg (tornL _ _ _) z = _ ∨ _
        rw [seg_torn _ _ _ _ (fateN_mod _) hz]
        split
        · refine .inr ⟨x, List.mem_of_getElem? hx, hi.symm, ?_⟩
          show seg (tornL _ _ _) z = _
          rw [seg_torn _ _ _ _ (fateN_mod _) hz, if_pos ‹_›]
        · rcases ih with h | ⟨y, hy, e, h⟩
          · left; rw [← hi]; exact h
          · refine .inr ⟨y, hy, e, ?_⟩
            show seg (tornL _ _ _) z = _
            rw [seg_torn _ _ _ _ (fateN_mod _) hz, if_neg ‹_›, ← hi]; exact h
      · exact ih
    · exact ih

/-- the search of the law: is the unit the durable one, or that of one of the first k pending writes? -/
def fnd (e b : List UInt8) (l : List (Int × Sec)) (i : Int) (z k : Nat) : Bool := decide (seg e z = seg b z) || (l.take k).any fun x => decide (x.1 = i) && decide (seg e z = seg x.2.1 z)
theorem fnd_zero (e b : List UInt8) (l : List (Int × Sec)) (i : Int) (z : Nat) : fnd e b l i z 0 = decide (seg e z = seg b z) := by simp [fnd]
theorem fnd_succ (e b : List UInt8) (l : List (Int × Sec)) (i : Int) (z k : Nat) (x : Int × Sec) (hx : l[k]? = some x) : fnd e b l i z (k + 1) = (fnd e b l i z k || (decide (x.1 = i) && decide (seg e z = seg x.2.1 z))) := by
  unfold fnd
  rw [List.take_add_one, hx, List.any_append, Bool.or_assoc]
  simp
theorem fnd_all (D : Dsk) (cs : List UInt8) (i : Int) (z : Nat) (hz : z % 16 = 0) : fnd ((D.restart cs).see i).1 (D.at i).1 D.pend i z D.pend.length = true := by
  have h : (D.restart cs).see i = (D.restartTo cs D.pend.length).at i := rfl
  rw [h]
  unfold fnd
  rw [List.take_length]
  rcases units_to D cs i z hz D.pend.length with e | ⟨x, hx, e1, e2⟩
  · rw [e]; simp
  · rw [Bool.or_eq_true]
    exact .inr (List.any_eq_true.2 ⟨x, hx, by rw [e2]; simp [e1]⟩)

theorem seg_length (l : List UInt8) (z : Nat) (hl : l.length = 256) (hz : z + 16 ≤ 256) : (seg l z).length = 16 := by unfold seg; rw [List.length_take, List.length_drop]; omega
theorem BytesAt.seg {w : World} {g o c c' : Nat} {l : List UInt8} (h : BytesAt w (.slice (some ⟨g, o, none⟩) 256 c) l) (hl : l.length = 256) (z : Nat) (hz : z + 16 ≤ 256) : BytesAt w (.slice (some ⟨g, o + z, none⟩) 16 c') (seg l z) := by
  obtain ⟨a, cap, e, h⟩ := h
  have hs := seg_length l z hl hz
  refine ⟨some ⟨g, o + z, none⟩, c', by rw [hs], .inr ⟨g, o + z, rfl, ?_⟩⟩
  rcases h with h | ⟨b, o', e', h⟩
  · rw [h] at hl; simp at hl
  · have e2 : a = some ⟨g, o, none⟩ := (Value.slice.inj e).1.symm
    rw [e2] at e'
    cases e'
    intro j v hv
    have hj := (List.getElem?_eq_some_iff.1 hv).1
    rw [u8s_length, hs] at hj
    rw [show o + z + j = o + (z + j) by omega]
    apply h
    rw [← hv]
    unfold Go.Proofs.Yticgkbpmaakkiaa.seg
    simp [u8s, List.getElem?_take, hj]
end Go.Proofs.Yticgkbpmaakkiaa

namespace Go.Proofs.Yticgkbpmaakkiaa
open Go.RowKit

/-- Choices as they came in. -/
def ChAt (w : World) (ca : Option Addr) (cc : Nat) (cs : List UInt8) : Prop := BytesAt w (.slice ca cs.length cc) cs ∧ cs.length ≤ 9223372036854775807 ∧ (cs = [] ∨ ∀ k, (Value.slice ca cs.length cc).ownBlock = some k → k < w.heap.size)

set_option maxRecDepth 100000 in
theorem Units_big (w : World) (s : Nat) (hs : s < 256) (a : Option Addr) (len cap : Nat) (ca : Option Addr) (cl cc : Nat) (h : 40 < len ∨ 100 < cl) :
    Calls Try.prog 5 #[.int .u8 s, .slice a len cap, .slice ca cl cc] w fun e w' => e = .returned (.bool true) ∧ Fr Non w w' := by
  by_cases h4 : len ≤ 40
  · have h5 : ¬ ((cl : Int) ≤ 100) := by omega
    have e4 : decide (len ≤ 40) = true := decide_eq_true h4
    clear h h4
    go_enter Try.func5, Try.ntmps5
    go_wp2_with (first
      | (go_at_call 11; refine (known_c w).mono ?_; rintro e w1 ⟨rfl, hF1⟩; have HF1 := Lib.hid hF1; clear hF1)
      | (go_at_call 11; refine (known_c w1).mono ?_; rintro e w9 ⟨rfl, hF9⟩; have HF9 := Lib.hid hF9; clear hF9)
      | (go_at_call 22; refine (small_c _ _ _ _).mono ?_; rintro e w2 ⟨rfl, rfl⟩)
      | fail)
    go_ret
    exact ⟨rfl, HF1.out.trans HF9.out (fun _ _ h => h)⟩
  · have e4 : decide (len ≤ 40) = false := decide_eq_false h4
    clear h h4
    go_enter Try.func5, Try.ntmps5
    go_wp2_with (first
      | (go_at_call 11; refine (known_c w).mono ?_; rintro e w1 ⟨rfl, hF1⟩; have HF1 := Lib.hid hF1; clear hF1)
      | (go_at_call 11; refine (known_c w1).mono ?_; rintro e w9 ⟨rfl, hF9⟩; have HF9 := Lib.hid hF9; clear hF9)
      | (go_at_call 22; refine (small_c _ _ _ _).mono ?_; rintro e w2 ⟨rfl, rfl⟩)
      | fail)
    go_ret
    exact ⟨rfl, HF1.out.trans HF9.out (fun _ _ h => h)⟩

theorem ChAt.later {w w5 w6 : World} {ca : Option Addr} {cc : Nat} {cs : List UInt8} (h : ChAt w ca cc cs) (hF : Fr Non w w5) {S : Nat → Prop} (hS : Fr S w5 w6) (hs : ∀ k, S k → w.heap.size ≤ k) : BytesAt w6 (.slice ca cs.length cc) cs :=
  (h.1.fr hF (fun _ _ h => h)).fr0 hS (h.2.2.imp id (fun q k hk hk' => by have := q k hk; have := hs k hk'; omega))
theorem ChAt.ne {w : World} {ca : Option Addr} {cc : Nat} {cs : List UInt8} (h : ChAt w ca cc cs) {m : Nat} (hm : w.heap.size ≤ m) : cs = [] ∨ ∀ k, (Value.slice ca cs.length cc).ownBlock = some k → k ≠ m :=
  h.2.2.imp id (fun q k hk e => by have := q k hk; omega)
theorem Both.down {B : Nat} {w : World} {p m : Nat} {pv dv wv : Value} {D : Dsk} (h : Both B w p m pv dv wv D) : B ≤ p ∧ B ≤ m := ⟨h.foot p (.inl rfl), h.foot m (.inr (.inl rfl))⟩

set_option maxRecDepth 100000 in
set_option maxHeartbeats 2000000 in
theorem Units_small (w : World) (s : Nat) (hs : s < 256) (a : Option Addr) (cap : Nat) (os : List OpX) (ca : Option Addr) (cc : Nat) (cs : List UInt8) (hl : os.length ≤ 40) (hc : cs.length ≤ 100) (ho : OpsAt w a os) (hch : ChAt w ca cc cs) :
    Calls Try.prog 5 #[.int .u8 s, .slice a os.length cap, .slice ca cs.length cc] w fun e w' => e = .returned (.bool true) ∧ Fr Non w w' := by
  have e4 : decide (os.length ≤ 40) = true := decide_eq_true hl
  have hc' : (cs.length : Int) ≤ 100 := by omega
  have HO := Lib.hid ho
  have HL := Lib.hid hl
  have HCH := Lib.hid hch
  clear ho hl hc hch
  go_enter Try.func5, Try.ntmps5
  go_wp2_with (first
    | (go_at_call 11; refine (known_c w).mono ?_; rintro e w1 ⟨rfl, hF1⟩; have HF1 := Lib.hid hF1; clear hF1)
    | (go_at_call 22; refine (small_c _ _ _ _).mono ?_; rintro e w2 ⟨rfl, rfl⟩)
    | (go_at_call 23; go_loud (refine (run_any w1 _ (by omega) (by omega) a cap os HL.out (HO.out.non HF1.out)).mono ?_; rintro e w2 ⟨D, p, m, pv, dv, wv, rfl, hB2, hF2, hpl, hn⟩; have HB2 := Lib.hid hB2; have HF2 := Lib.hid hF2; have HPL := Lib.hid hpl; clear hB2 hF2 hpl hn))
    | (guard_target =~ wpList _ _ _ (⟨_, Op.alloc 45, _, _, _, _⟩ :: _) _ _; refine wl rfl (r_allocA rfl (zero45 _)) ?_; have HN3 := Lib.hid (heap_alloc_new w2 (.cells zref 45)); have HF3 := Lib.hid ((Fr.refl Non w2).alloc (.cells zref 45)); obtain ⟨w3, hw3⟩ : ∃ w3, w2.alloc (.cells zref 45) = w3 := ⟨_, rfl⟩; rw [hw3]; rw [hw3] at HN3 HF3; have HW3 := Lib.hid hw3; clear hw3)
    | (guard_target =~ wpList _ _ _ (⟨_, Op.store 45 _ _, _, _, _, _⟩ :: _) _ w3; refine wu rfl (r_store (b := w2.heap.size) (i := 0) (cs := refL dv wv D) rfl rfl rfl (there45 HN3.out rfl) (by rw [sz45]; rfl) (refL_one HB2.out.r _)) ?_; have HN4 := Lib.hid (put45 HN3.out rfl (l := refL dv wv D) rfl); have HB4 := Lib.hid ((HB2.out.non HF3.out).put HN3.out (refL dv wv D)); have HF4 : Hid (Fr Non w (w3.setCells w2.heap.size 0 (refL dv wv D))) := Fr.setCells _ (fun h => by have := HF2.out.size; have := HF1.out.size; omega) _ _ _ ((HF1.out.trans HF2.out (fun _ _ h => h)).trans HF3.out (fun _ _ h => h)); generalize w3.setCells w2.heap.size 0 (refL dv wv D) = w4 at *)
    | (go_at_call 16; go_loud (refine (Pending_ok w4 p m pv D HB4.out.d (by have := HPL.out; omega)).mono ?_; rintro e w5 ⟨v, rfl, hP5, hF5⟩; have HP5 := Lib.hid hP5; have HF5 := Lib.hid hF5; have HB5 := Lib.hid (HB4.out.non hF5); clear hP5 hF5))
    | (go_at_call 24; refine (Fail_c w5 p m pv D HB5.out.d).mono ?_; rintro e w6 ⟨rfl, hd6, hF6⟩; have HD6 := Lib.hid hd6; have HF6 := Lib.hid hF6; clear hd6 hF6)
    | (go_at_call 25; go_loud (refine (Restart_ok w6 p m pv { D with down := true } _ cs HD6.out rfl (by have := HPL.out; show D.pend.length ≤ _; omega) (HCH.out.later (HF4.out.trans HF5.out (fun _ _ h => h)) HF6.out (fun k e => by have := HB5.out.down.1; have := HF1.out.size; omega)) (HCH.out.ne (by have := HB5.out.down.2; have := HF1.out.size; omega)) HCH.out.2.1).mono ?_; rintro e w7 ⟨rfl, hS7⟩; have HS7 := Lib.hid hS7; clear hS7))
    | fail)
  have hX : ∃ pv7, DiskAt w7 p m pv7 ({ D with down := true }.restart cs) ∧ w7.heap[w2.heap.size]? = some (.cells (refL dv wv D).toArray 45) ∧ RefAt w7 dv wv D ∧ PendAt w7 50 w4.heap.size v D.pend ∧ Fr Non w w7 := by
    obtain ⟨pv7, hd7, hF7, ho7⟩ := HS7.out
    have hF47 : Fr (Foot p m pv) w4 w7 := ((HF5.out.mono (fun _ _ h => h.elim)).trans HF6.out (fun _ _ e => .inl e)).trans hF7 (fun _ _ h => h)
    have hF57 : Fr (Foot p m pv) w5 w7 := (HF6.out.mono (fun _ _ e => .inl e)).trans hF7 (fun _ _ h => h)
    refine ⟨pv7, hd7, hF47.keep HN4.out (HB4.out.d.no45 HN4.out), HB4.out.r.fr hF47 HB4.out.d.apart, HP5.out.fr hF57 (fun k hk hf => ?_), HF4.out.trans hF47 (fun i hi hf => ?_)⟩
    · have := foot_lt HB4.out.d hf; omega
    · have := HB4.out.foot i hf; have := HF1.out.size; omega
  obtain ⟨pv7, hd7, hn7, hR7, hP7, hF7⟩ := hX
  obtain ⟨ss, ys, hR⟩ := hR7
  have HOK := Lib.hid HB4.out.ok
  obtain ⟨gd, cd, rfl, hcell⟩ := hR.dvAt HOK.out.n0
  obtain ⟨zs, hz1, hz2, hz3, hz4⟩ := hP7
  obtain ⟨av, cv, rfl, -, hvn, hva⟩ := Own.shape hz1
  rw [hz2]
  have HD7 := Lib.hid hd7
  have HN7 := Lib.hid hn7
  have HR7 := Lib.hid hR
  have HCELL := Lib.hid hcell
  have HZ := Lib.hid (And.intro hz1 (And.intro hz2 hz4))
  have HVN := Lib.hid hvn
  have HVA := Lib.hid hva
  have HF7 := Lib.hid hF7
  clear hd7 hn7 hR hcell hz1 hz2 hz3 hz4 hvn hva hF7 HS7 HP5 HB5 HB4 HD6 HN4 HB2 HN3 HW3
  generalize w2.heap.size = b8 at *
  have HSS := Lib.hid (show (ss.length : Int) = D.n from HR7.out.nd)
  go_loopw [11] (fun i wr => ∃ k : Nat, i = .int .i64 k ∧ k ≤ ss.length ∧ Fr Non w7 wr) (fun i _ => ss.length - (intOf i).toNat)
  case atStart => exact ⟨0, rfl, Nat.zero_le _, Fr.refl _ _⟩
  case round =>
    obtain ⟨k, rfl, hk, hF⟩ := hrel
    have c0 : wr.cell? ⟨b8, 0, none⟩ = some (.slice (some ⟨gd, 0, none⟩) ss.length cd) := cellOf (hF.keep HN7.out (fun h => h)) 0 rfl
    have HF := Lib.hid hF
    clear hF
    by_cases hlt : k < ss.length
    · obtain ⟨x, hx⟩ : ∃ x, ss[k]? = some x := ⟨_, List.getElem?_eq_getElem hlt⟩
      obtain ⟨gs, cs', rfl, hob⟩ := HR7.out.bd k x hx
      have HLT := Lib.hid hlt
      have hk40 : (k : Int) ≤ 4096 := by have := HOK.out.n1; have := HSS.out; omega
      have c1 : wr.cell? ⟨gd, k, none⟩ = some (.slice (some ⟨gs, 0, none⟩) 256 cs') := HF.out.cell (HCELL.out k _ hx) (fun h => h)
      have HOB := Lib.hid hob
      have HHAS : Hid (({ D with down := true }.restart cs).has k = true) := by
        have : ({ D with down := true }.restart cs).n = D.n := (restartTo_keeps { D with down := true } cs _).2.1
        have h2 := HSS.out
        unfold Dsk.has
        rw [this]
        exact decide_eq_true (by omega)
      have HDr : Hid (DiskAt wr p m pv7 ({ D with down := true }.restart cs)) := HD7.out.fr HF.out (fun _ _ h => h)
      have HFND := Lib.hid (fun z hz => fnd_all { D with down := true } cs k z hz)
      clear hx hob
      go_wp2_with (first
        | (go_at_call 17; refine (Read_ok wr p m pv7 _ k HDr.out rfl HHAS.out (Nat.zero_le _)).mono ?_; rintro e w8 ⟨g, rfl, hg, hgl, hF8⟩; have HG := Lib.hid hg; have HF8 := Lib.hid hF8; clear hg hF8)
        | fail)
      have HE := Lib.hid (BytesAt.of_block HG.out 256 256 ({ D with down := true }.restart cs |>.see k).2.symm)
      have HDB := Lib.hid (OwnB.bytes (HOB.out.fr (HF.out.trans HF8.out (fun _ _ h => h)) (fun _ _ h => h)))
      have hcap : 256 ≤ cs' := by
        obtain ⟨_, cp, e, hle, _⟩ := Own.shape HOB.out
        have e2 := (Value.slice.inj e).2
        omega
      have c0' : w8.cell? ⟨b8, 0, none⟩ = some (.slice (some ⟨gd, 0, none⟩) ss.length cd) := HF8.out.cell c0 (fun h => h)
      have c1' : w8.cell? ⟨gd, k, none⟩ = some (.slice (some ⟨gs, 0, none⟩) 256 cs') := HF8.out.cell c1 (fun h => h)
      have HL1 := Lib.hid ({ D with down := true }.restart cs |>.see k).2
      have HL2 := Lib.hid (D.at k).2
      have HF9 : Hid (Fr Non w7 w8) := HF.out.trans HF8.out (fun _ _ h => h)
      clear c0 c1
      generalize (({ D with down := true }.restart cs).see k).1 = EE at *
      generalize hDA : (D.at k).1 = DD at *
      have hFD : ∀ z : Nat, z % 16 = 0 → fnd EE DD D.pend k z D.pend.length = true := fun z hz => by rw [← hDA]; exact HFND.out z hz
      have HFD := Lib.hid hFD
      clear HFND hFD hDA
      go_loop [14] (fun u => ∃ z : Nat, u = .int .i64 z ∧ z % 16 = 0 ∧ z ≤ 256) (fun u => 256 - (intOf u).toNat)
      case atStart => exact ⟨0, rfl, rfl, by omega⟩
      case round =>
        obtain ⟨z, rfl, hz, hz2⟩ := hrel
        by_cases hlz : z < 256
        · have hz3 : z + 16 ≤ 256 := by omega
          have HE2 : Hid (BytesAt w8 (.slice (some ⟨g, z, none⟩) (z + 16 - z) (256 - z)) (seg EE z)) := (by have := HE.out.seg (c' := 256 - z) HL1.out z hz3; rw [Nat.zero_add] at this; rw [Nat.add_sub_cancel_left]; exact this : BytesAt w8 (.slice (some ⟨g, z, none⟩) (z + 16 - z) (256 - z)) (seg EE z))
          have HD2 : Hid (BytesAt w8 (.slice (some ⟨gs, z, none⟩) (z + 16 - z) (cs' - z)) (seg DD z)) := (by have := HDB.out.seg (c' := cs' - z) HL2.out z hz3; rw [Nat.zero_add] at this; rw [Nat.add_sub_cancel_left]; exact this : BytesAt w8 (.slice (some ⟨gs, z, none⟩) (z + 16 - z) (cs' - z)) (seg DD z))
          have HZZ := Lib.hid hz
          have hz4 : (z : Int) < 256 := by omega
          clear hz
          go_wp2_with (first
            | (guard_target =~ wpList _ _ _ (⟨some 80, Op.convert 30 9 _, _, _, _, _⟩ :: _) _ _; go_loud (refine wl rfl (r_convert (u := .slice (some ⟨g, z, none⟩) (z + 16 - z) (256 - z)) rfl rfl (run_str Try.underlying30 Try.underlying5 Try.underlying9 HE2.out)) ?_))
            | (guard_target =~ wpList _ _ _ (⟨some 91, Op.convert 30 9 _, _, _, _, _⟩ :: _) _ _; go_loud (refine wl rfl (r_convert (u := .slice (some ⟨gs, z, none⟩) (z + 16 - z) (cs' - z)) rfl rfl (run_str Try.underlying30 Try.underlying5 Try.underlying9 HD2.out)) ?_))
            | (guard_target =~ wpList _ _ _ (⟨some 92, Op.binOp _ _ _ _ _, _, _, _, _⟩ :: _) _ _; refine wl rfl (r_strEql (l1 := seg EE z) (l2 := seg DD z) rfl Try.underlying9 rfl rfl) ?_)
            | fail)
          go_loop [16, 17] (fun f j => ∃ q : Nat, j = .int .i64 q ∧ q ≤ D.pend.length ∧ f = .bool (fnd EE DD D.pend k z q)) (fun _ j => D.pend.length - (intOf j).toNat)
          case atStart => exact ⟨0, rfl, Nat.zero_le _, by rw [fnd_zero]⟩
          case round =>
            obtain ⟨q, rfl, hq, rfl⟩ := hrel
            by_cases hlq : q < D.pend.length
            · obtain ⟨x, hx⟩ : ∃ x, D.pend[q]? = some x := ⟨_, List.getElem?_eq_getElem hlq⟩
              obtain ⟨hz1, hz2', hz4⟩ := HZ.out
              obtain ⟨y, hy⟩ : ∃ y, zs[q]? = some y := ⟨_, List.getElem?_eq_getElem (by omega)⟩
              obtain ⟨e1, e2, gy, cy, e3, -⟩ := hz4 q y x hy hx
              have hn := HFD.out z HZZ.out
              have hsu := fnd_succ EE DD D.pend k z q x hx
              obtain ⟨gv, hgv⟩ : ∃ gv, av = some ⟨gv, 0, none⟩ := by
                cases av with
                | none =>
                  have := HVN.out rfl
                  rw [this] at hy; cases hy
                | some ad => obtain ⟨g', rfl⟩ := HVA.out ad rfl; exact ⟨g', rfl⟩
              subst hgv
              have hel := rangeAt_fr HF9.out (Own.elem elem50 hz1 hy) (fun h => h)
              have cv0 : w8.cell? ⟨gv, q * 2, none⟩ = some (.int .i64 x.1) := by rw [← e1]; exact hel 0 _ rfl
              have cv1 : w8.cell? ⟨gv, q * 2 + 1, none⟩ = some (.slice (some ⟨gy, 0, none⟩) 256 cy) := by have := hel 1 _ rfl; rw [this, e3]; rfl
              rw [e3] at e2
              have HY := Lib.hid (OwnB.bytes (e2.fr HF9.out (fun _ _ h => h)))
              have hcy : 256 ≤ cy := by
                obtain ⟨_, cp, e, hle, _⟩ := Own.shape e2
                have e10 : cy = cp := (Value.slice.inj e).2.2
                rw [x.2.2] at hle
                omega
              have HY2 : Hid (BytesAt w8 (.slice (some ⟨gy, z, none⟩) (z + 16 - z) (cy - z)) (seg x.2.1 z)) := (by have := HY.out.seg (c' := cy - z) x.2.2 z hz3; rw [Nat.zero_add] at this; rw [Nat.add_sub_cancel_left]; exact this : BytesAt w8 (.slice (some ⟨gy, z, none⟩) (z + 16 - z) (cy - z)) (seg x.2.1 z))
              have HLQ := Lib.hid hlq
              have hq40 : (q : Int) ≤ 40 := by have := HPL.out; omega
              clear hz1 hz2' hz4 hy e1 e2 e3 hel hn hx
              generalize x.1 = x1 at *
              generalize x.2.1 = xb at *
              cases hfq : fnd EE DD D.pend k z q with
              | true =>
                rw [hfq, Bool.true_or] at hsu
                have HSU := Lib.hid hsu
                clear hsu hfq
                go_wp2
                go_round
                case rel => exact ⟨q + 1, by go_num, by have := HLQ.out; omega, by rw [HSU.out]⟩
                case measure => have := HLQ.out; simp [intOf]; omega
              | false =>
                rw [hfq, Bool.false_or] at hsu
                clear hfq
                by_cases hxk : x1 = (k : Int)
                · subst hxk
                  rw [decide_eq_true rfl, Bool.true_and] at hsu
                  have HSU := Lib.hid hsu
                  clear hsu
                  go_wp2_with (first
                    | (guard_target =~ wpList _ _ _ (⟨some 119, Op.convert 30 9 _, _, _, _, _⟩ :: _) _ _; go_loud (refine wlg rfl (r_convert (u := .slice (some ⟨gy, z, none⟩) (z + 16 - z) (cy - z)) rfl rfl (run_str Try.underlying30 Try.underlying5 Try.underlying9 HY2.out)) ?_))
                    | (guard_target =~ wpList _ _ _ (⟨some 120, Op.binOp _ _ _ _ _, _, _, _, _⟩ :: _) _ _; refine wlg rfl (r_strEql (l1 := seg EE z) (l2 := seg xb z) rfl Try.underlying9 rfl rfl) ?_)
                    | fail)
                  go_round
                  case rel => exact ⟨q + 1, by go_num, by have := HLQ.out; omega, by rw [HSU.out]⟩
                  case measure => have := HLQ.out; simp [intOf]; omega
                · have e5 : (x1 == (k : Int)) = false := beq_eq_false_iff_ne.2 hxk
                  rw [decide_eq_false hxk, Bool.false_and] at hsu
                  have HSU := Lib.hid hsu
                  clear hsu hxk
                  go_wp2
                  go_round
                  case rel => exact ⟨q + 1, by go_num, by have := HLQ.out; omega, by rw [HSU.out]⟩
                  case measure => have := HLQ.out; simp [intOf]; omega
            · obtain rfl : q = D.pend.length := by omega
              rw [HFD.out z HZZ.out]
              go_wp2
              go_round
              case rel => exact ⟨z + 16, by go_num, by have := HZZ.out; omega, by omega⟩
              case measure => simp [intOf]; omega
        · obtain rfl : z = 256 := by omega
          go_wp2
          go_roundw
          case rel => exact ⟨k + 1, by go_num, by have := HLT.out; omega, HF9.out⟩
          case measure => have := HLT.out; simp [intOf] <;> omega
    · obtain rfl : k = ss.length := by omega
      go_wp2
      go_ret
      exact ⟨rfl, HF7.out.trans HF.out (fun _ _ h => h)⟩
end Go.Proofs.Yticgkbpmaakkiaa
