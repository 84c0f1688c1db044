import Derived.Test.YticgkbpmaakkiaaDk6q
namespace Go.Proofs.Yticgkbpmaakkiaa
open Go.RowKit

def fateOf (s t : Sec) (c : UInt8) : Sec := if c.toNat % 3 = 0 then s else if c.toNat % 3 = 1 then t else torn s t c
def Dsk.at (D : Dsk) (k : Int) : Sec := (D.dur k).getD zeroSec
def Dsk.restartTo (D : Dsk) (cs : List UInt8) : Nat → Dsk
  | 0 => D
  | k + 1 => match D.pend[k]? with
    | some x => (D.restartTo cs k).store x.1 (fateOf ((D.restartTo cs k).at x.1) x.2 (cs.getD k 0))
    | none => D.restartTo cs k
theorem restartTo_keeps (D : Dsk) (cs : List UInt8) : ∀ k, (D.restartTo cs k).pend = D.pend ∧ (D.restartTo cs k).n = D.n ∧ (D.restartTo cs k).ops = D.ops ∧ (D.restartTo cs k).limited = D.limited ∧ (D.restartTo cs k).limit = D.limit ∧ (D.restartTo cs k).down = D.down
  | 0 => ⟨rfl, rfl, rfl, rfl, rfl, rfl⟩
  | k + 1 => by
    unfold Dsk.restartTo
    split
    · exact restartTo_keeps D cs k
    · exact restartTo_keeps D cs k
def Dsk.restart (D : Dsk) (cs : List UInt8) : Dsk := { D.restartTo cs D.pend.length with pend := [], down := false, limited := false, limit := 0 }

theorem fate_any (s t : Sec) (c : UInt8) : ∃ F, (F = 58 ∨ F = 59 ∨ F = 60) ∧ (#[Value.func (.func 58) #[] #[], .func (.func 59) #[] #[], .func (.func 60) #[] #[]] : Array Value)[c.toNat % 3]? = some (.func (.func F) #[] #[]) ∧
    ∀ w, Calls Try.prog F #[.agg (u8s s.1).toArray, .agg (u8s t.1).toArray, .int .u8 c.toNat] w fun e w' => e = .returned (.agg (u8s (fateOf s t c).1).toArray) ∧ Fr Non w w' := by
  unfold fateOf
  rcases (by omega : c.toNat % 3 = 0 ∨ c.toNat % 3 = 1 ∨ c.toNat % 3 = 2) with h | h | h
  · refine ⟨58, .inl rfl, by rw [h]; rfl, fun w => ?_⟩
    rw [if_pos h]; exact fate0_c w s t _
  · refine ⟨59, .inr (.inl rfl), by rw [h]; rfl, fun w => ?_⟩
    rw [if_neg (by omega), if_pos h]; exact fate1_c w s t _
  · refine ⟨60, .inr (.inr rfl), by rw [h]; rfl, fun w => ?_⟩
    rw [if_neg (by omega), if_neg (by omega)]; exact fate2_c w s t c

theorem lookup75 {w : World} {p m : Nat} {pv : Value} {D : Dsk} (h : DiskAt w p m pv D) (k : Int) : (Instr.lookup 75 (.map (some m)) (.int .i64 k) false).run Try.prog w = .ok (.agg (u8s (D.at k).1).toArray) w := by
  obtain ⟨l, hl, hg⟩ := h.hm
  have := run_lookup (P := Try.prog) hl keyOk3 Try.underlying75 (zero80 w) k false
  rw [this]
  unfold Dsk.at
  rw [hg k]
  cases aget k l <;> rfl

set_option maxRecDepth 100000 in
set_option maxHeartbeats 400000 in
theorem Restart_ok (w : World) (p m : Nat) (pv : Value) (D : Dsk) (sv : Value) (cs : List UInt8) (h : DiskAt w p m pv D) (hd : D.down = true) (hl : D.pend.length ≤ 100000) (hb : BytesAt w sv cs) (hsp0 : cs = [] ∨ ∀ k, sv.ownBlock = some k → k ≠ m) (hcs : cs.length ≤ 9223372036854775807) :
    Calls Try.prog 25 #[.pointer (some ⟨p, 0, none⟩), sv] w fun e w' => e = .returned (.int .i64 0) ∧ Step w w' p m pv (D.restart cs) := by
  obtain ⟨c0, c1, c2, c3, c4, c5, c6⟩ := h.cell
  rw [hd] at c6
  have HH := Lib.hid h
  clear h c0 c1 c2 c3 c4 c5
  obtain ⟨sa, scap, rfl, hbs⟩ := hb
  have HB := Lib.hid hbs
  clear hbs
  obtain ⟨a, cap, rfl, hcap, hnil, hag⟩ := Own.shape (show Own w 82 257 wcells pv D.pend from HH.out.hv)
  go_enter Try.func25, Try.ntmps25
  go_wp2_with (first
    | (go_at_call 42; refine (fates_c w).mono ?_; rintro e w1 ⟨rfl, hF1⟩; have HF1 := Lib.hid hF1; have HD1 := Lib.hid (HH.out.fr hF1 (fun _ _ h => h)); obtain ⟨d0, d1, d2, d3, d4, d5, d6⟩ := HD1.out.cell; have hlt1 := HD1.out.plt; clear hF1 d0 d1 d3 d4 d5 d6)
    | (guard_target =~ wpList _ _ _ (⟨_, Op.alloc 88, _, _, _, _⟩ :: _) _ _; refine wl rfl (r_allocA rfl (zero88 _)) ?_)
    | fail)
  have hfb : (w1.alloc (.cells #[Value.func (.func 58) #[] #[], .func (.func 59) #[] #[], .func (.func 60) #[] #[]] 88)).heap[w1.heap.size]? = some (.cells #[Value.func (.func 58) #[] #[], .func (.func 59) #[] #[], .func (.func 60) #[] #[]] 88) := heap_alloc_new w1 _
  have HFB := Lib.hid hfb
  clear hfb
  obtain ⟨fb, hfbe⟩ : ∃ fb, fb = w1.heap.size := ⟨_, rfl⟩
  rw [← hfbe] at HFB ⊢
  have hWF : Fr Non w (w1.alloc (.cells #[Value.func (.func 58) #[] #[], .func (.func 59) #[] #[], .func (.func 60) #[] #[]] 88)) := HF1.out.alloc _
  have HWF := Lib.hid hWF
  have hfbm : m < fb := by rw [hfbe]; have := (HD1.out).mlt; exact this
  clear hWF
  have HWD : Hid (DiskAt (w1.alloc (.cells #[Value.func (.func 58) #[] #[], .func (.func 59) #[] #[], .func (.func 60) #[] #[]] 88)) p m (.slice a D.pend.length cap) D) := HH.out.fr HWF.out (fun _ _ h => h)
  clear hfbe d2 hlt1 HF1 HD1
  generalize (w1.alloc (.cells #[Value.func (.func 58) #[] #[], .func (.func 59) #[] #[], .func (.func 60) #[] #[]] 88)) = W at *
  go_loopw [22] (fun i wr => ∃ k : Nat, k ≤ D.pend.length ∧ i = .int .i64 k ∧ DiskAt wr p m (.slice a D.pend.length cap) (D.restartTo cs k) ∧ Fr (· = m) W wr) (fun i _ => D.pend.length - (intOf i).toNat)
  case atStart => exact ⟨0, by omega, rfl, HWD.out, Fr.refl _ _⟩
  case round =>
    obtain ⟨k, hk, rfl, hD, hF⟩ := hrel
    have HD := Lib.hid hD
    have HF := Lib.hid hF
    clear hD hF
    by_cases hlt : k < D.pend.length
    · obtain ⟨x, hx⟩ : ∃ x, D.pend[k]? = some x := ⟨_, List.getElem?_eq_getElem hlt⟩
      have HX := Lib.hid hx
      clear hx
      cases a with
      | none => have := hnil rfl; rw [this] at hlt; simp at hlt
      | some ad =>
        obtain ⟨g, rfl⟩ := hag ad rfl
        have hown : Own wr 82 257 wcells (.slice (some ⟨g, 0, none⟩) D.pend.length cap) D.pend := by
          have h := HD.out.hv
          rw [(restartTo_keeps D cs k).1] at h; exact h
        have hr := Lib.hid (Own.elem elem82 hown HX.out)
        clear hown
        have hWh : (wr.alloc (.cells (wcells x).toArray 82)).heap[wr.heap.size]? = some (.cells (wcells x).toArray 82) := heap_alloc_new wr _
        have hc0 : (wr.alloc (.cells (wcells x).toArray 82)).cell? ⟨wr.heap.size, 0, none⟩ = some (.int .i64 x.1) := cellOf hWh 0 (by simp [wcells])
        have hc1 : (wr.alloc (.cells (wcells x).toArray 82)).rangeAt wr.heap.size 1 (u8s x.2.1) := rangeAt_of hWh 1 _ (fun j v hv => by simpa [wcells, Nat.add_comm 1 j] using hv)
        have HC0 := Lib.hid hc0
        have HC1 := Lib.hid hc1
        have HW : Hid (DiskAt (wr.alloc (.cells (wcells x).toArray 82)) p m (.slice (some ⟨g, 0, none⟩) D.pend.length cap) (D.restartTo cs k)) := HD.out.fr ((Fr.refl Non wr).alloc _) (fun _ _ h => h)
        have HWf : Hid (Fr (· = m) W (wr.alloc (.cells (wcells x).toArray 82))) := HF.out.alloc _
        clear hWh hc0 hc1
        -- the choice
        have hcell : ∀ i, i < cs.length → ∃ b o, sa = some ⟨b, o, none⟩ ∧ b ≠ m ∧ (wr.alloc (.cells (wcells x).toArray 82)).cell? ⟨b, o + i, none⟩ = some (.int .u8 ((cs.getD i 0).toNat : Int)) := by
          intro i hi
          rcases HB.out with hb | ⟨b, o, rfl, hb⟩
          · rw [hb] at hi; simp at hi
          · refine ⟨b, o, rfl, ((hsp0.resolve_left (fun e => by rw [e] at hi; simp at hi)) b rfl), ?_⟩
            have h1 := hb i (.int .u8 (cs[i].toNat : Int)) (by rw [u8s_get, List.getElem?_eq_getElem hi]; rfl)
            have h2 := (HWf.out).cell (HWF.out.cell h1 (fun h => h)) (((hsp0.resolve_left (fun e => by rw [e] at hi; simp at hi)) b rfl))
            rw [h2]
            simp [hi]
        have HCELL := Lib.hid hcell
        clear hcell
        by_cases hck : k < cs.length
        · obtain ⟨b, o, rfl, hbm, hcc⟩ := HCELL.out k hck
          obtain ⟨c, hce⟩ : ∃ c, cs.getD k 0 = c := ⟨_, rfl⟩
          rw [hce] at hcc
          have HCE := Lib.hid hce
          clear hce
          have hc0 : (0 : Int) ≤ (c.toNat : Int) := Int.natCast_nonneg _
          have hc1 : (c.toNat : Int) ≤ 255 := by have := c.toNat_lt; omega
          obtain ⟨s0, hs0⟩ : ∃ s0, (D.restartTo cs k).at x.1 = s0 := ⟨_, rfl⟩
          have HS0 := Lib.hid hs0
          clear hs0
          obtain ⟨F, hF, hFc, hFw⟩ := fate_any s0 x.2 c
          have HFC := Lib.hid hFc
          have HFWW := Lib.hid hFw
          clear hFc hFw
          have hmod : ((c.toNat : Int) % 3).toNat = c.toNat % 3 := by omega
          have htm : (c.toNat : Int).tmod 3 = (c.toNat : Int) % 3 := Int.tmod_eq_emod_of_nonneg hc0
          have hm0 : (0 : Int) ≤ (c.toNat : Int) % 3 := by omega
          have hm1 : (c.toNat : Int) % 3 < 3 := by omega
          go_wp2_with (first
          | (guard_target =~ wpList _ _ _ (⟨_, Op.load 82 _, _, _, _, _⟩ :: _) _ _; refine wl rfl (r_load (b := g) (i := k * 257) rfl rfl hr.out Try.underlying82 rfl (by rw [sz82, wcells_length])) ?_)
          | (guard_target =~ wpList _ _ _ (⟨_, Op.alloc 82, _, _, _, _⟩ :: _) _ _; refine wl rfl (r_allocA rfl (zero82 _)) ?_)
          | (guard_target =~ wpList _ _ _ (⟨_, Op.store 82 _ _, _, _, _, _⟩ :: _) _ _; refine wu rfl (r_store_new (c' := (wcells x).toArray) rfl rfl rfl (by simp [sz82, wcells_length]) (by simp [wcells_length, sec_len]) (all_oneCell_toArray (wcells_one x))) ?_; generalize (wr.alloc (.cells (wcells x).toArray 82)) = w2 at *)
          | fail)
          clear hcc
          have hS : (fun w' : World => w'.cell? ⟨wr.heap.size, 0, none⟩ = some (.int .i64 x.1) ∧ w'.rangeAt wr.heap.size 1 (u8s x.2.1) ∧ w'.cell? ⟨p, 1, none⟩ = some (.map (some m)) ∧ w'.cell? ⟨fb, c.toNat % 3, none⟩ = some (.func (.func F) #[] #[]) ∧
              (Instr.lookup 75 (.map (some m)) (.int .i64 x.1) false).run Try.prog w' = .ok (.agg (u8s s0.1).toArray) w') w2.drew := by
            refine ⟨HC0.out, by simpa using HC1.out, HW.out.cell.2.1, ?_, ?_⟩
            · have := HWf.out.keep HFB.out (by omega)
              exact cellOf (w := w2.drew) this _ HFC.out
            · have := lookup75 (HW.out.drewN 1) x.1
              rw [HS0.out] at this; exact this
          refine rc (fun w' : World => w'.cell? ⟨wr.heap.size, 0, none⟩ = some (.int .i64 x.1) ∧ w'.rangeAt wr.heap.size 1 (u8s x.2.1) ∧ w'.cell? ⟨p, 1, none⟩ = some (.map (some m)) ∧ w'.cell? ⟨fb, c.toNat % 3, none⟩ = some (.func (.func F) #[] #[]) ∧
              (Instr.lookup 75 (.map (some m)) (.int .i64 x.1) false).run Try.prog w' = .ok (.agg (u8s s0.1).toArray) w') 18 (by kernel_rfl) ?_
          refine tc (i := 0) (v := .pointer (some ⟨p, 0, none⟩)) rfl 8 (by kernel_rfl) (fun _ _ _ h => h) rfl (fun W0 hw => by obtain ⟨hw0, _, hw2, hw3, hw4⟩ := hw; unfold RunV; go_simp) hS ?_
          simp only [Act.put, List.setIfInBounds_toArray, List.set_cons_zero, List.set_cons_succ]
          refine tc (i := 1) (v := .pointer (some ⟨wr.heap.size, 0, none⟩)) rfl 8 (by kernel_rfl) (fun _ _ _ h => h) rfl (fun W0 hw => by obtain ⟨hw0, _, hw2, hw3, hw4⟩ := hw; unfold RunV; go_simp) hS ?_
          simp only [Act.put, List.setIfInBounds_toArray, List.set_cons_zero, List.set_cons_succ]
          refine tc (i := 2) (v := .int .i64 x.1) rfl 8 (by kernel_rfl) (fun _ _ _ h => h) rfl (fun W0 hw => by obtain ⟨hw0, _, hw2, hw3, hw4⟩ := hw; unfold RunV; go_simp) hS ?_
          simp only [Act.put, List.setIfInBounds_toArray, List.set_cons_zero, List.set_cons_succ]
          refine tc (i := 3) (v := .int .u8 c.toNat) rfl 8 (by kernel_rfl) (fun _ _ _ h => h) rfl (fun W0 hw => by obtain ⟨hw0, _, hw2, hw3, hw4⟩ := hw; unfold RunV; go_simp) hS ?_
          simp only [Act.put, List.setIfInBounds_toArray, List.set_cons_zero, List.set_cons_succ]
          refine tc (i := 4) (v := .int .u8 ((c.toNat : Int) % 3)) rfl 8 (by kernel_rfl) (fun _ _ _ h => h) rfl (fun W0 hw => by obtain ⟨hw0, _, hw2, hw3, hw4⟩ := hw; unfold RunV; go_simp) hS ?_
          simp only [Act.put, List.setIfInBounds_toArray, List.set_cons_zero, List.set_cons_succ]
          refine tc (i := 5) (v := .pointer (some ⟨fb, c.toNat % 3, none⟩)) rfl 8 (by kernel_rfl) (fun _ _ _ h => h) rfl (fun W0 hw => by obtain ⟨hw0, _, hw2, hw3, hw4⟩ := hw; unfold RunV; go_simp) hS ?_
          simp only [Act.put, List.setIfInBounds_toArray, List.set_cons_zero, List.set_cons_succ]
          refine tc (i := 6) (v := .func (.func F) #[] #[]) rfl 8 (by kernel_rfl) (fun _ _ _ h => h) rfl (fun W0 hw => by obtain ⟨hw0, _, hw2, hw3, hw4⟩ := hw; unfold RunV; go_simp) hS ?_
          simp only [Act.put, List.setIfInBounds_toArray, List.set_cons_zero, List.set_cons_succ]
          refine tc (i := 7) (v := .pointer (some ⟨p, 0, none⟩)) rfl 8 (by kernel_rfl) (fun _ _ _ h => h) rfl (fun W0 hw => by obtain ⟨hw0, _, hw2, hw3, hw4⟩ := hw; unfold RunV; go_simp) hS ?_
          simp only [Act.put, List.setIfInBounds_toArray, List.set_cons_zero, List.set_cons_succ]
          refine tc (i := 8) (v := .pointer (some ⟨p, 0, none⟩)) rfl 8 (by kernel_rfl) (fun _ _ _ h => h) rfl (fun W0 hw => by obtain ⟨hw0, _, hw2, hw3, hw4⟩ := hw; unfold RunV; go_simp) hS ?_
          simp only [Act.put, List.setIfInBounds_toArray, List.set_cons_zero, List.set_cons_succ]
          refine tc (i := 9) (v := .pointer (some ⟨p, 1, none⟩)) rfl 8 (by kernel_rfl) (fun _ _ _ h => h) rfl (fun W0 hw => by obtain ⟨hw0, _, hw2, hw3, hw4⟩ := hw; unfold RunV; go_simp) hS ?_
          simp only [Act.put, List.setIfInBounds_toArray, List.set_cons_zero, List.set_cons_succ]
          refine tc (i := 10) (v := .map (some m)) rfl 8 (by kernel_rfl) (fun _ _ _ h => h) rfl (fun W0 hw => by obtain ⟨hw0, _, hw2, hw3, hw4⟩ := hw; unfold RunV; go_simp) hS ?_
          simp only [Act.put, List.setIfInBounds_toArray, List.set_cons_zero, List.set_cons_succ]
          refine tc (i := 11) (v := .pointer (some ⟨wr.heap.size, 0, none⟩)) rfl 8 (by kernel_rfl) (fun _ _ _ h => h) rfl (fun W0 hw => by obtain ⟨hw0, _, hw2, hw3, hw4⟩ := hw; unfold RunV; go_simp) hS ?_
          simp only [Act.put, List.setIfInBounds_toArray, List.set_cons_zero, List.set_cons_succ]
          refine tc (i := 12) (v := .int .i64 x.1) rfl 8 (by kernel_rfl) (fun _ _ _ h => h) rfl (fun W0 hw => by obtain ⟨hw0, _, hw2, hw3, hw4⟩ := hw; unfold RunV; go_simp) hS ?_
          simp only [Act.put, List.setIfInBounds_toArray, List.set_cons_zero, List.set_cons_succ]
          refine tc (i := 13) (v := .agg (u8s s0.1).toArray) rfl 8 (by kernel_rfl) (fun _ _ _ h => h) rfl (fun W0 hw => by obtain ⟨hw0, _, hw2, hw3, hw4⟩ := hw; unfold RunV; go_simp) hS ?_
          simp only [Act.put, List.setIfInBounds_toArray, List.set_cons_zero, List.set_cons_succ]
          refine tc (i := 14) (v := .pointer (some ⟨wr.heap.size, 1, none⟩)) rfl 8 (by kernel_rfl) (fun _ _ _ h => h) rfl (fun W0 hw => by obtain ⟨hw0, _, hw2, hw3, hw4⟩ := hw; unfold RunV; go_simp) hS ?_
          simp only [Act.put, List.setIfInBounds_toArray, List.set_cons_zero, List.set_cons_succ]
          refine tc (i := 15) (v := .agg (u8s x.2.1).toArray) rfl 8 (by kernel_rfl) (fun _ _ _ h => h) rfl (fun W0 hw => r_load (b := wr.heap.size) (i := 1) rfl rfl hw.2.1 Try.underlying80 rfl (by rw [sz80, sec_len])) hS ?_
          simp only [Act.put, List.setIfInBounds_toArray, List.set_cons_zero, List.set_cons_succ]
          refine tc (i := 16) (v := .int .u8 c.toNat) rfl 8 (by kernel_rfl) (fun _ _ _ h => h) rfl (fun W0 hw => by obtain ⟨hw0, _, hw2, hw3, hw4⟩ := hw; unfold RunV; go_simp) hS ?_
          simp only [Act.put, List.setIfInBounds_toArray, List.set_cons_zero, List.set_cons_succ]
          have hp1 := HW.out.cell.2.1
          have hfc := hS.2.2.2.1
          clear hS
          rcases hF with rfl | rfl | rfl
          all_goals
            refine oc1 (i := 17) rfl (by kernel_rfl) rfl ?_
            unfold Oper.wp
            go_simp
            refine (HFWW.out _).mono ?_
            rintro e w3 ⟨rfl, hF3⟩
            have hD3 : DiskAt w3 p m (.slice (some ⟨g, 0, none⟩) D.pend.length cap) (D.restartTo cs k) := (HW.out.drewN 1).fr hF3 (fun _ _ h => h)
            refine ⟨⟨hF3.cell (show w2.drew.cell? _ = _ from HC0.out) (fun h => h), rangeAt_fr hF3 (show w2.drew.rangeAt _ _ _ from by simpa using HC1.out) (fun h => h), hD3.cell.2.1, hF3.cell hfc (fun h => h), by rw [← HS0.out]; exact lookup75 hD3 x.1⟩, ?_⟩
            refine oc1 (i := 18) rfl (by kernel_rfl) rfl ?_
            unfold Oper.wp
            go_simp
            refine (store_c w3 p m _ _ x.1 (fateOf s0 x.2 c) hD3).mono ?_
            rintro e w4 ⟨rfl, hD4, hF4⟩
            refine dc (by kernel_rfl) ?_
            have HD4 := Lib.hid hD4
            have HF4 : Hid (Fr (· = m) W w4) := ((HWf.out.drew.trans hF3 (fun _ _ h => h.elim)).trans hF4 (fun _ _ h => h))
            clear hD3 hF3 hD4 hF4
            go_wp2
            go_roundw
            case rel =>
              refine ⟨k + 1, by omega, by go_num, ?_, HF4.out⟩
              have : D.restartTo cs (k + 1) = (D.restartTo cs k).store x.1 (fateOf s0 x.2 c) := by
                conv => lhs; unfold Dsk.restartTo
                rw [HX.out]
                simp only [HCE.out, HS0.out]
              rw [this]
              exact HD4.out
            case measure => simp [intOf]; omega
        · have HCE : Hid (cs.getD k 0 = 0) := by show _ = _; simp [List.getD, List.getElem?_eq_none (show cs.length ≤ k by omega)]
          obtain ⟨s0, hs0⟩ : ∃ s0, (D.restartTo cs k).at x.1 = s0 := ⟨_, rfl⟩
          have HS0 := Lib.hid hs0
          clear hs0 HCELL
          have hfe : fateOf s0 x.2 0 = s0 := by unfold fateOf; exact if_pos rfl
          go_wp2_with (first
          | (guard_target =~ wpList _ _ _ (⟨_, Op.load 82 _, _, _, _, _⟩ :: _) _ _; refine wl rfl (r_load (b := g) (i := k * 257) rfl rfl hr.out Try.underlying82 rfl (by rw [sz82, wcells_length])) ?_)
          | (guard_target =~ wpList _ _ _ (⟨_, Op.alloc 82, _, _, _, _⟩ :: _) _ _; refine wl rfl (r_allocA rfl (zero82 _)) ?_)
          | (guard_target =~ wpList _ _ _ (⟨_, Op.store 82 _ _, _, _, _, _⟩ :: _) _ _; refine wu rfl (r_store_new (c' := (wcells x).toArray) rfl rfl rfl (by simp [sz82, wcells_length]) (by simp [wcells_length, sec_len]) (all_oneCell_toArray (wcells_one x))) ?_; generalize (wr.alloc (.cells (wcells x).toArray 82)) = w2 at *)
          | fail)
          have hS : (fun w' : World => w'.cell? ⟨wr.heap.size, 0, none⟩ = some (.int .i64 x.1) ∧ w'.rangeAt wr.heap.size 1 (u8s x.2.1) ∧ w'.cell? ⟨p, 1, none⟩ = some (.map (some m)) ∧ w'.cell? ⟨fb, 0, none⟩ = some (.func (.func 58) #[] #[]) ∧
              (Instr.lookup 75 (.map (some m)) (.int .i64 x.1) false).run Try.prog w' = .ok (.agg (u8s s0.1).toArray) w') w2.drew := by
            refine ⟨HC0.out, by simpa using HC1.out, HW.out.cell.2.1, ?_, ?_⟩
            · have := HWf.out.keep HFB.out (by omega)
              exact cellOf (w := w2.drew) this _ rfl
            · have := lookup75 (HW.out.drewN 1) x.1
              rw [HS0.out] at this; exact this
          refine rc (fun w' : World => w'.cell? ⟨wr.heap.size, 0, none⟩ = some (.int .i64 x.1) ∧ w'.rangeAt wr.heap.size 1 (u8s x.2.1) ∧ w'.cell? ⟨p, 1, none⟩ = some (.map (some m)) ∧ w'.cell? ⟨fb, 0, none⟩ = some (.func (.func 58) #[] #[]) ∧
              (Instr.lookup 75 (.map (some m)) (.int .i64 x.1) false).run Try.prog w' = .ok (.agg (u8s s0.1).toArray) w') 18 (by kernel_rfl) ?_
          refine tc (i := 0) (v := .pointer (some ⟨p, 0, none⟩)) rfl 8 (by kernel_rfl) (fun _ _ _ h => h) rfl (fun W0 hw => by obtain ⟨hw0, _, hw2, hw3, hw4⟩ := hw; unfold RunV; go_simp) hS ?_
          simp only [Act.put, List.setIfInBounds_toArray, List.set_cons_zero, List.set_cons_succ]
          refine tc (i := 1) (v := .pointer (some ⟨wr.heap.size, 0, none⟩)) rfl 8 (by kernel_rfl) (fun _ _ _ h => h) rfl (fun W0 hw => by obtain ⟨hw0, _, hw2, hw3, hw4⟩ := hw; unfold RunV; go_simp) hS ?_
          simp only [Act.put, List.setIfInBounds_toArray, List.set_cons_zero, List.set_cons_succ]
          refine tc (i := 2) (v := .int .i64 x.1) rfl 8 (by kernel_rfl) (fun _ _ _ h => h) rfl (fun W0 hw => by obtain ⟨hw0, _, hw2, hw3, hw4⟩ := hw; unfold RunV; go_simp) hS ?_
          simp only [Act.put, List.setIfInBounds_toArray, List.set_cons_zero, List.set_cons_succ]
          refine tc (i := 3) (v := .int .u8 0) rfl 8 (by kernel_rfl) (fun _ _ _ h => h) rfl (fun W0 hw => by obtain ⟨hw0, _, hw2, hw3, hw4⟩ := hw; unfold RunV; go_simp) hS ?_
          simp only [Act.put, List.setIfInBounds_toArray, List.set_cons_zero, List.set_cons_succ]
          refine tc (i := 4) (v := .int .u8 0) rfl 8 (by kernel_rfl) (fun _ _ _ h => h) rfl (fun W0 hw => by obtain ⟨hw0, _, hw2, hw3, hw4⟩ := hw; unfold RunV; go_simp) hS ?_
          simp only [Act.put, List.setIfInBounds_toArray, List.set_cons_zero, List.set_cons_succ]
          refine tc (i := 5) (v := .pointer (some ⟨fb, 0, none⟩)) rfl 8 (by kernel_rfl) (fun _ _ _ h => h) rfl (fun W0 hw => by obtain ⟨hw0, _, hw2, hw3, hw4⟩ := hw; unfold RunV; go_simp) hS ?_
          simp only [Act.put, List.setIfInBounds_toArray, List.set_cons_zero, List.set_cons_succ]
          refine tc (i := 6) (v := .func (.func 58) #[] #[]) rfl 8 (by kernel_rfl) (fun _ _ _ h => h) rfl (fun W0 hw => by obtain ⟨hw0, _, hw2, hw3, hw4⟩ := hw; unfold RunV; go_simp) hS ?_
          simp only [Act.put, List.setIfInBounds_toArray, List.set_cons_zero, List.set_cons_succ]
          refine tc (i := 7) (v := .pointer (some ⟨p, 0, none⟩)) rfl 8 (by kernel_rfl) (fun _ _ _ h => h) rfl (fun W0 hw => by obtain ⟨hw0, _, hw2, hw3, hw4⟩ := hw; unfold RunV; go_simp) hS ?_
          simp only [Act.put, List.setIfInBounds_toArray, List.set_cons_zero, List.set_cons_succ]
          refine tc (i := 8) (v := .pointer (some ⟨p, 0, none⟩)) rfl 8 (by kernel_rfl) (fun _ _ _ h => h) rfl (fun W0 hw => by obtain ⟨hw0, _, hw2, hw3, hw4⟩ := hw; unfold RunV; go_simp) hS ?_
          simp only [Act.put, List.setIfInBounds_toArray, List.set_cons_zero, List.set_cons_succ]
          refine tc (i := 9) (v := .pointer (some ⟨p, 1, none⟩)) rfl 8 (by kernel_rfl) (fun _ _ _ h => h) rfl (fun W0 hw => by obtain ⟨hw0, _, hw2, hw3, hw4⟩ := hw; unfold RunV; go_simp) hS ?_
          simp only [Act.put, List.setIfInBounds_toArray, List.set_cons_zero, List.set_cons_succ]
          refine tc (i := 10) (v := .map (some m)) rfl 8 (by kernel_rfl) (fun _ _ _ h => h) rfl (fun W0 hw => by obtain ⟨hw0, _, hw2, hw3, hw4⟩ := hw; unfold RunV; go_simp) hS ?_
          simp only [Act.put, List.setIfInBounds_toArray, List.set_cons_zero, List.set_cons_succ]
          refine tc (i := 11) (v := .pointer (some ⟨wr.heap.size, 0, none⟩)) rfl 8 (by kernel_rfl) (fun _ _ _ h => h) rfl (fun W0 hw => by obtain ⟨hw0, _, hw2, hw3, hw4⟩ := hw; unfold RunV; go_simp) hS ?_
          simp only [Act.put, List.setIfInBounds_toArray, List.set_cons_zero, List.set_cons_succ]
          refine tc (i := 12) (v := .int .i64 x.1) rfl 8 (by kernel_rfl) (fun _ _ _ h => h) rfl (fun W0 hw => by obtain ⟨hw0, _, hw2, hw3, hw4⟩ := hw; unfold RunV; go_simp) hS ?_
          simp only [Act.put, List.setIfInBounds_toArray, List.set_cons_zero, List.set_cons_succ]
          refine tc (i := 13) (v := .agg (u8s s0.1).toArray) rfl 8 (by kernel_rfl) (fun _ _ _ h => h) rfl (fun W0 hw => by obtain ⟨hw0, _, hw2, hw3, hw4⟩ := hw; unfold RunV; go_simp) hS ?_
          simp only [Act.put, List.setIfInBounds_toArray, List.set_cons_zero, List.set_cons_succ]
          refine tc (i := 14) (v := .pointer (some ⟨wr.heap.size, 1, none⟩)) rfl 8 (by kernel_rfl) (fun _ _ _ h => h) rfl (fun W0 hw => by obtain ⟨hw0, _, hw2, hw3, hw4⟩ := hw; unfold RunV; go_simp) hS ?_
          simp only [Act.put, List.setIfInBounds_toArray, List.set_cons_zero, List.set_cons_succ]
          refine tc (i := 15) (v := .agg (u8s x.2.1).toArray) rfl 8 (by kernel_rfl) (fun _ _ _ h => h) rfl (fun W0 hw => r_load (b := wr.heap.size) (i := 1) rfl rfl hw.2.1 Try.underlying80 rfl (by rw [sz80, sec_len])) hS ?_
          simp only [Act.put, List.setIfInBounds_toArray, List.set_cons_zero, List.set_cons_succ]
          refine tc (i := 16) (v := .int .u8 0) rfl 8 (by kernel_rfl) (fun _ _ _ h => h) rfl (fun W0 hw => by obtain ⟨hw0, _, hw2, hw3, hw4⟩ := hw; unfold RunV; go_simp) hS ?_
          simp only [Act.put, List.setIfInBounds_toArray, List.set_cons_zero, List.set_cons_succ]
          have hfc := hS.2.2.2.1
          clear hS
          refine oc1 (i := 17) rfl (by kernel_rfl) rfl ?_
          unfold Oper.wp
          go_simp
          refine (fate0_c _ s0 x.2 0).mono ?_
          rintro e w3 ⟨rfl, hF3⟩
          have hD3 : DiskAt w3 p m (.slice (some ⟨g, 0, none⟩) D.pend.length cap) (D.restartTo cs k) := (HW.out.drewN 1).fr hF3 (fun _ _ h => h)
          refine ⟨⟨hF3.cell (show w2.drew.cell? _ = _ from HC0.out) (fun h => h), rangeAt_fr hF3 (show w2.drew.rangeAt _ _ _ from by simpa using HC1.out) (fun h => h), hD3.cell.2.1, hF3.cell hfc (fun h => h), by rw [← HS0.out]; exact lookup75 hD3 x.1⟩, ?_⟩
          refine oc1 (i := 18) rfl (by kernel_rfl) rfl ?_
          unfold Oper.wp
          go_simp
          refine (store_c w3 p m _ _ x.1 s0 hD3).mono ?_
          rintro e w4 ⟨rfl, hD4, hF4⟩
          refine dc (by kernel_rfl) ?_
          have HD4 := Lib.hid hD4
          have HF4 : Hid (Fr (· = m) W w4) := ((HWf.out.drew.trans hF3 (fun _ _ h => h.elim)).trans hF4 (fun _ _ h => h))
          have HFE := Lib.hid hfe
          clear hD3 hF3 hD4 hF4 hfe
          go_wp2
          go_roundw
          case rel =>
            refine ⟨k + 1, by omega, by go_num, ?_, HF4.out⟩
            have : D.restartTo cs (k + 1) = (D.restartTo cs k).store x.1 s0 := by
              conv => lhs; unfold Dsk.restartTo
              rw [HX.out]
              simp only [HCE.out, HS0.out, HFE.out]
            rw [this]
            exact HD4.out
          case measure => simp [intOf]; omega
    · obtain rfl : k = D.pend.length := by omega
      obtain ⟨d0, d1, d2, d3, d4, d5, d6⟩ := HD.out.cell
      have f := HD.out.frozen
      have hfin : Step w ((((wr.setCell ⟨p, 2, none⟩ (.slice none 0 0)).setCell ⟨p, 6, none⟩ (.bool false)).setCell ⟨p, 4, none⟩ (.bool false)).setCell ⟨p, 5, none⟩ (.int .i64 0)) p m (.slice a D.pend.length cap) (D.restart cs) := by
        have hD := HD.out
        obtain ⟨l, hm, hg⟩ := hD.hm
        have hF3 : Fr (· = p) wr ((((wr.setCell ⟨p, 2, none⟩ (.slice none 0 0)).setCell ⟨p, 6, none⟩ (.bool false)).setCell ⟨p, 4, none⟩ (.bool false)).setCell ⟨p, 5, none⟩ (.int .i64 0)) :=
          ((((Fr.refl (· = p) wr).setCell _ _ (fun _ => rfl)).setCell _ _ (fun _ => rfl)).setCell _ _ (fun _ => rfl)).setCell _ _ (fun _ => rfl)
        refine ⟨.slice none 0 0, ⟨by rw [heap_setCell_at (heap_setCell_at (heap_setCell_at (heap_setCell_at hD.hp _ _) _ _) _ _)]; rfl, ⟨l, hm.fr hF3 (fun e => hD.mne e), hg⟩, World.ownsRow_nil _ _ _ _⟩, ?_, fun k hk => by simp [Value.ownBlock] at hk⟩
        exact ((HWF.out.mono (T := Foot p m (.slice a D.pend.length cap)) (fun _ _ h => h.elim)).trans HF.out (fun i _ e => .inr (.inl e))).trans hF3 (fun i _ e => .inl e)
      have HFIN := Lib.hid hfin
      clear hfin HD HF d0 d1 d3
      go_wp2
      go_ret
      exact ⟨rfl, HFIN.out⟩
end Go.Proofs.Yticgkbpmaakkiaa
