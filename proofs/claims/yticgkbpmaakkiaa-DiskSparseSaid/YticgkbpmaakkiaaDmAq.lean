/-
  Sparse's iterator: the sectors that are not zero come in order.
-/
import Derived.Test.YticgkbpmaakkiaaDm8toDm9q
namespace Go.Proofs.Yticgkbpmaakkiaa
open Go.RowKit Go.Shelf

attribute [local go_sem] Oper.semAt_some

theorem keys_put {V : Type} (k : Int) (v : V) (l : List (Int × V)) (z : Int) : z ∈ (aput k v l).map (·.1) ↔ z ∈ l.map (·.1) ∨ z = k := by
  rw [keys_aput]
  split
  · rename_i h
    exact ⟨.inl, fun hh => hh.elim id (fun e => by rw [e]; exact h)⟩
  · rw [List.mem_append, List.mem_singleton]
theorem filter_take {α : Type} (p : α → Bool) (l : List α) (n : Nat) : ∃ j, j ≤ (l.filter p).length ∧ (l.take n).filter p = (l.filter p).take j := by
  have h : l.filter p = (l.take n).filter p ++ (l.drop n).filter p := by rw [← List.filter_append, List.take_append_drop]
  exact ⟨((l.take n).filter p).length, by rw [h]; simp, by rw [h]; simp⟩
set_option maxRecDepth 100000 in
set_option maxHeartbeats 4000000 in
theorem sparse_in (l Bs p m : Nat) (pv : Value) (D : Dsk) (S : Nat → Prop) (hD : Dok D) (hC : Clean D) (J Jx : List Int → World → Prop) (W : World) (hB : W.cell? ⟨Bs, 0, none⟩ = some (.pointer (some ⟨p, 0, none⟩))) (hd : DiskAt W p m pv D) (hup : D.down = false)
    (hS : ∀ k, S k → k < W.heap.size ∧ ¬ Foot p m pv k ∧ k ≠ Bs) (dl : List (Int × Sec)) (hdl : MapAt W m intK secV dl) (hdg : ∀ k, D.dur k = aget k dl) (hll : dl.length ≤ 10000)
    (hJ : AbidesFrom W.heap.size J) (hBc : ∃ t, W.heap[Bs]? = some (.cells #[.pointer (some ⟨p, 0, none⟩)] t))
    (hY : ∀ pre x W1, J pre W1 → pre.length < (sparseL D).length → YieldAt Fence.wide (2 - 1) Try.prog l #[.int .i64 x] W1 fun e W' =>
      (e = .returned (.bool true) ∧ J (pre ++ [x]) W' ∧ KpS S W1 W') ∨ (e = .returned (.bool false) ∧ Jx (pre ++ [x]) W')) (h0 : J [] W) :
    CallsIn Fence.wide 2 Try.prog 54 #[.func (.yield l) #[] #[], .pointer (some ⟨Bs, 0, none⟩)] W fun e W' => (∃ v, e = .returned v) ∧
      ((∃ xs, xs = sparseL D ∧ J xs W') ∨ (∃ pre, (∃ k, k ≤ (sparseL D).length ∧ pre = (sparseL D).take k) ∧ Jx pre W')) := by
  have hmm := @run_makeMap Try.prog
  obtain ⟨a, cap, rfl, -, hnil, hag⟩ := Own.shape (show Own W 82 257 wcells pv D.pend from hd.hv)
  have hpl : D.pend.length ≤ 50000 := hD.len
  -- the set of the sectors that are stored
  have hm0 := MapAt.made W intK Value.bool
  have hF0 : Fr Non W (W.alloc (.map #[] 0)) := (Fr.refl _ W).alloc _
  obtain ⟨w1, hw1⟩ : ∃ w1, W.alloc (.map #[] 0) = w1 := ⟨_, rfl⟩
  rw [hw1] at hm0 hF0
  have hs1 : w1.heap.size = W.heap.size + 1 := by rw [← hw1]; simp
  obtain ⟨w2, hr, hR, hF2⟩ := ranging_start (hdl.fr hF0 (fun h => h)) Try.underlying75
  obtain ⟨c0, c1, c2, c3, c4, c5, c6⟩ := hd.cell
  rw [hup] at c6
  have c1' := hF0.cell c1 (fun h => h)
  have hB1 := hF0.cell hB (fun h => h)
  have HR := Lib.hid hr
  have HRG := Lib.hid hR
  have HF2 : Hid (Fr Non W w2) := hF0.trans hF2 (fun _ _ h => h)
  have HM0 := Lib.hid (hm0.fr hF2 (fun h => h))
  have HD := Lib.hid hd
  have HS1 := Lib.hid hs1
  have HJ := Lib.hid hJ
  have HY := Lib.hid hY
  have HJ0 : Hid (J [] w2) := hJ [] W w2 none h0 (grownBy_non HF2.out) (fun r e => by cases e)
  have HBW := Lib.hid hB
  have HST := Lib.hid hS
  have HDG := Lib.hid hdg
  have HDN : Hid (dl.map (·.1)).Nodup := hdl.nodup
  have HPL := Lib.hid hpl
  have HLL := Lib.hid hll
  have HOK := Lib.hid (And.intro hD (And.intro hC hup))
  have HBC := Lib.hid hBc
  have HAG := Lib.hid (And.intro hnil hag)
  clear hr hR hF2 hm0 hd hJ hY h0 hS hdg hdl hpl hll hF0 c0 c1 c2 c3 c4 c5 hs1 hD hC hup hBc hnil hag
  refine callsIn_of_wp Try.func54 rfl trivial ?_ rfl
  simp only [Try.ntmps54, List.size_toArray, List.length_cons, List.length_nil, Nat.reduceAdd, Nat.reduceSub, Array.replicate_succ, Array.replicate_zero, List.push_toArray, List.append_toArray, List.nil_append, List.cons_append]
  gi_wp2_with (first
    | (guard_target =~ wpListIn _ _ _ _ _ (⟨_, Op.range _ _, _, _, _, _⟩ :: _) _ _; refine wlIn rfl rfl (r_range rfl rfl HR.out) ?_; simp only [Act.put, List.setIfInBounds_toArray, List.set_cons_zero, List.set_cons_succ])
    | fail)
  gi_loopw [4] (fun _ wr => ∃ (done : List (Int × Sec)) (lr : List (Int × Bool)), Ranging wr w1.heap.size m intK secV dl done ∧ MapAt wr W.heap.size intK Value.bool lr ∧ (∀ z, z ∈ lr.map (·.1) ↔ z ∈ done.map (·.1)) ∧ lr.length ≤ done.length ∧ Fr Non W wr ∧ J [] wr) (fun _ wr => dl.length - seenAt wr w1.heap.size)
  case atStart => exact ⟨[], [], HRG.out, HM0.out, (fun z => Iff.rfl), Nat.le_refl _, HF2.out, HJ0.out⟩
  case round =>
    obtain ⟨done, lr, hR, hm, hk, hl, hF, hJs⟩ := hrel
    have hsn := hR.seenAt
    have hmr : W.heap.size ≠ w1.heap.size := by have := HS1.out; omega
    rcases ranging_next (P := Try.prog) hR 0 with ⟨hp, hr⟩ | ⟨x, w3, hx, hr, he, hR2, hF3, hlt⟩
    · have HR2 := Lib.hid hr
      have HM := Lib.hid hm
      have HK : Hid (∀ z, z ∈ lr.map (·.1) ↔ z ∈ dl.map (·.1)) := fun z => (hk z).trans (hp.map (·.1)).mem_iff
      have HL := Lib.hid (show lr.length ≤ dl.length from by have := hp.length_eq; omega)
      have HF := Lib.hid hF
      have HJs := Lib.hid hJs
      have hBq : wr.cell? ⟨Bs, 0, none⟩ = some (.pointer (some ⟨p, 0, none⟩)) := hF.cell HBW.out (fun h => h)
      have hdq := (HD.out.fr hF (fun _ _ h => h)).cell.2.2.1
      have hpl9 : (D.pend.length : Int) ≤ 50000 := by have := HPL.out; omega
      clear hr hp hR hsn hm hk hl hF hJs
      obtain ⟨wo, rfl⟩ : ∃ wo : World, wo = wr := ⟨_, rfl⟩
      gi_wp2_with (first
        | (guard_target =~ wpListIn _ _ _ _ _ (⟨_, Op.next _ _, _, _, _, _⟩ :: _) _ _; refine wlIn rfl rfl (r_next (it := .tmp 22) (b := false) rfl rfl rfl HR2.out) ?_; simp only [Act.put, List.setIfInBounds_toArray, List.set_cons_zero, List.set_cons_succ])
        | fail)
      clear hBq hdq
      gi_loopw [34] (fun i wr => ∃ (k : Nat) (lr : List (Int × Bool)), i = .int .i64 k ∧ k ≤ D.pend.length ∧ MapAt wr W.heap.size intK Value.bool lr ∧ (∀ z, z ∈ lr.map (·.1) ↔ z ∈ dl.map (·.1) ∨ z ∈ (D.pend.take k).map (·.1)) ∧ lr.length ≤ dl.length + k ∧ Fr Non W wr ∧ J [] wr) (fun i _ => D.pend.length - (intOf i).toNat)
      case atStart => exact ⟨0, lr, rfl, Nat.zero_le _, HM.out, (fun z => by rw [HK.out z]; simp), by have := HL.out; omega, HF.out, HJs.out⟩
      case round =>
        obtain ⟨k, lr, rfl, hk, hm, hkk, hl, hF, hJs⟩ := hrel
        have HM := Lib.hid hm
        have HKK := Lib.hid hkk
        have HL := Lib.hid hl
        have HF := Lib.hid hF
        have HJs := Lib.hid hJs
        clear hm hkk hl hF hJs
        by_cases hlt : k < D.pend.length
        · have hlt' : (k : Int) < (D.pend.length : Int) := by omega
          have hk9 : (k : Int) ≤ 50000 := by omega
          obtain ⟨x, hx⟩ : ∃ x, D.pend[k]? = some x := ⟨_, List.getElem?_eq_getElem hlt⟩
          obtain ⟨ga, rfl⟩ : ∃ ga, a = some ⟨ga, 0, none⟩ := by
            cases a with
            | none => have h1 := HAG.out.1 rfl; rw [h1] at hx; cases hx
            | some ad => obtain ⟨g, rfl⟩ := HAG.out.2 ad rfl; exact ⟨g, rfl⟩
          have hel := Own.elem elem82 (show Own wr 82 257 wcells (.slice (some ⟨ga, 0, none⟩) D.pend.length cap) D.pend from (HD.out.fr HF.out (fun _ _ h => h)).hv) hx
          have hb3 := heap_alloc_new wr (.cells (wcells x).toArray 82)
          have hF3 : Fr Non wr (wr.alloc (.cells (wcells x).toArray 82)) := (Fr.refl _ wr).alloc _
          obtain ⟨w3, hw3⟩ : ∃ w3, wr.alloc (.cells (wcells x).toArray 82) = w3 := ⟨_, rfl⟩
          rw [hw3] at hb3 hF3
          have hxc : w3.cell? ⟨wr.heap.size, 0, none⟩ = some (.int .i64 x.1) := cellOf hb3 0 (by simp [wcells])
          have hm3 := HM.out.fr hF3 (fun h => h)
          obtain ⟨es, clock, hbm, -⟩ := hm3.ex
          obtain ⟨ob, hup, hmap⟩ := run_update (P := Try.prog) (t := 103) hm3 keyOk3 Try.underlying103 x.1 true
          have hFo : Fr (· = W.heap.size) w3 (w3.putObj W.heap.size ob) := (Fr.refl _ _).putObj _ _ (fun _ => rfl)
          have HJ4 : Hid (J [] (w3.putObj W.heap.size ob)) := HJ.out [] w3 _ (some W.heap.size) (HJ.out [] wr w3 none HJs.out (grownBy_non hF3) (fun r e => by cases e)) (grownBy_fr hFo) (fun r e => by cases e; exact ⟨Nat.le_refl _, _, hbm, rfl⟩)
          have HF4 : Hid (Fr Non W (w3.putObj W.heap.size ob)) := (HF.out.trans hF3 (fun _ _ h => h)).trans hFo (fun i hi e => by have e' : i = W.heap.size := e; omega)
          have HEL := Lib.hid hel
          have HUP := Lib.hid hup
          have HMAP := Lib.hid hmap
          have HLT := Lib.hid hlt
          have HX := Lib.hid hx
          clear hel hb3 hF3 hm3 hbm hup hmap hFo hlt hx
          gi_wp2_with (first
            | (guard_target =~ wpListIn _ _ _ _ _ (⟨_, Op.load 82 _, _, _, _, _⟩ :: _) _ _; refine wlIn rfl rfl (r_load (b := ga) (i := k * 257) rfl rfl HEL.out Try.underlying82 rfl (by rw [sz82, wcells_length])) ?_; simp only [Act.put, List.setIfInBounds_toArray, List.set_cons_zero, List.set_cons_succ])
            | (guard_target =~ wpListIn _ _ _ _ _ (⟨_, Op.alloc 82, _, _, _, _⟩ :: _) _ _; refine wlIn rfl rfl (r_allocA rfl (zero82 _)) ?_; simp only [Act.put, List.setIfInBounds_toArray, List.set_cons_zero, List.set_cons_succ])
            | (guard_target =~ wpListIn _ _ _ _ _ (⟨_, Op.store 82 _ _, _, _, _, _⟩ :: _) _ _; refine wuIn rfl rfl (r_store_new (c' := (wcells x).toArray) rfl rfl rfl (by simp [sz82, wcells_length]) (by simp [wcells_length, sec_len]) (all_oneCell_toArray (wcells_one x))) ?_; rw [hw3]; simp only [Act.put, List.setIfInBounds_toArray, List.set_cons_zero, List.set_cons_succ])
            | (guard_target =~ wpListIn _ _ _ _ _ (⟨_, Op.mapUpdate _ _ _ _, _, _, _, _⟩ :: _) _ _; refine wuIn rfl rfl (r_mapUpdate rfl rfl rfl rfl HUP.out) ?_; generalize w3.putObj W.heap.size ob = w4 at *; simp only [Act.put, List.setIfInBounds_toArray, List.set_cons_zero, List.set_cons_succ])
            | fail)
          go_roundw
          case rel => exact ⟨k + 1, _, by go_num, by have := HLT.out; omega, HMAP.out, (fun z => by rw [keys_put, HKK.out z, List.take_add_one, HX.out]; simp [or_assoc, eq_comm]), by have := length_aput x.1 true lr; have := HL.out; omega, HF4.out, HJ4.out⟩
          case measure => have := HLT.out; simp [intOf] <;> omega
        · have hge : ¬ ((k : Int) < (D.pend.length : Int)) := by omega
          have HE := Lib.hid (show k = D.pend.length from by omega)
          have HKS : Hid (∀ z, z ∈ lr.map (·.1) ↔ (D.dur z).isSome = true ∨ ∃ x ∈ D.pend, x.1 = z) := fun z => by
            rw [HKK.out z, HE.out, List.take_length, HDG.out z]
            refine or_congr ?_ ?_
            · rw [← Option.ne_none_iff_isSome, ne_eq, aget_none, Classical.not_not]
            · rw [List.mem_map]
          clear hlt
          have hB5 := heap_alloc_new wr (.cells #[.map (some W.heap.size)] 103)
          have hF5 : Fr Non wr (wr.alloc (.cells #[.map (some W.heap.size)] 103)) := (Fr.refl _ wr).alloc _
          have hs5 : wr.heap.size < (wr.alloc (.cells #[.map (some W.heap.size)] 103)).heap.size := by simp
          have hsc := Sorted_c (wr.alloc (.cells #[.map (some W.heap.size)] 103)) wr.heap.size W.heap.size lr (by have := HL.out; have := HLL.out; have := HPL.out; omega) hs5 (cellOf hB5 0 rfl) (HM.out.fr hF5 (fun h => h))
          have hkc := Keys_c wr (some W.heap.size)
          obtain ⟨w5, hw5⟩ : ∃ w5, wr.alloc (.cells #[.map (some W.heap.size)] 103) = w5 := ⟨_, rfl⟩
          rw [hw5] at hsc hkc hF5
          have HSC := Lib.hid hsc
          have HKC := Lib.hid hkc
          have HF5 := Lib.hid hF5
          have HNDL : Hid (lr.map (·.1)).Nodup := HM.out.nodup
          clear hB5 hs5 hsc hkc hF5 hw5
          gi_wp2_with fail
          refine ⟨trivial, (callsIn_wide.2 HKC.out).mono ?_⟩
          rintro e w5' ⟨rfl, rfl⟩
          gi_wp2_with fail
          refine ⟨trivial, (callsIn_wide.2 HSC.out).mono ?_⟩
          rintro e w6 ⟨v6, ss, rfl, hp6, ho6, hF6, hg6⟩
          have HG6 := Lib.hid hg6
          obtain ⟨a6, c6', rfl, hc6, hn6, ha6⟩ := Own.shape ho6
          have HP6 := Lib.hid hp6
          have HO6 := Lib.hid ho6
          have HF6 := Lib.hid hF6
          have HA6 := Lib.hid (And.intro hn6 ha6)
          clear hp6 ho6 hF6 hn6 ha6 hg6
          gi_wp2_with fail
          obtain ⟨ks, hks⟩ : ∃ ks, srtI ss = ks := ⟨_, rfl⟩
          have hnd : ss.Nodup := HP6.out.nodup_iff.2 HNDL.out
          have hsp : ks.filter (vis D) = sparseL D := by rw [← hks]; exact sparseL_keys HOK.out.1 HOK.out.2.1 HOK.out.2.2 hnd (fun z => by rw [HP6.out.mem_iff, HKS.out z])
          have hlen6 : ks.length ≤ 60000 := by
            rw [← hks, (srtI_perm ss).length_eq, HP6.out.length_eq, List.length_map]
            have := HL.out; have := HLL.out; have := HPL.out; omega
          have hlk6 : (srtI ss).length = ks.length := by rw [hks]
          rw [hks] at HO6 HA6 hc6 ⊢
          have HSP := Lib.hid hsp
          have HF06 : Hid (Fr Non W w6) := (HF.out.trans HF5.out (fun _ _ h => h)).trans HF6.out (fun _ _ h => h)
          have HJ6 : Hid (J [] w6) := HJ.out [] wr w6 none HJs.out (grownBy_non (HF5.out.trans HF6.out (fun _ _ h => h))) (fun r e => by cases e)
          have HD6 : Hid (DiskAt w6 p m (.slice a D.pend.length cap) D) := HD.out.fr HF06.out (fun _ _ h => h)
          have HBK : Hid (∃ t, w6.heap[Bs]? = some (.cells #[.pointer (some ⟨p, 0, none⟩)] t)) := by obtain ⟨t, ht⟩ := HBC.out; exact ⟨t, HF06.out.keep ht (fun h => h)⟩
          have HGE : Hid (∀ b, (Value.slice a6 ks.length c6').ownBlock = some b → ¬ S b) := fun b hb hs => by
            have h1 := (HST.out b hs).1
            have h2 := HG6.out b (by rw [hlk6]; exact hb)
            have h3 := HF.out.size
            have h4 := HF5.out.size
            omega
          clear hnd hsp hks hge hc6 hlk6
          gi_loopw [46] (fun i wx => ∃ k : Nat, i = .int .i64 k ∧ k ≤ ks.length ∧ J ((ks.take k).filter (vis D)) wx ∧ Own wx 3 1 intE (.slice a6 ks.length c6') ks ∧ DiskAt wx p m (.slice a D.pend.length cap) D ∧ (∃ t, wx.heap[Bs]? = some (.cells #[.pointer (some ⟨p, 0, none⟩)] t)) ∧ W.heap.size ≤ wx.heap.size) (fun i _ => ks.length - (intOf i).toNat)
          case atStart => exact ⟨0, rfl, Nat.zero_le _, by simpa using HJ6.out, HO6.out, HD6.out, HBK.out, HF06.out.size⟩
          case round =>
            obtain ⟨k, rfl, hk, hJk, hok, hdk, hbk, hzk⟩ := hrel
            have hlen9 : (ks.length : Int) ≤ 60000 := by omega
            by_cases hlt : k < ks.length
            · have hlt' : (k : Int) < (ks.length : Int) := by omega
              obtain ⟨z, hz⟩ : ∃ z, ks[k]? = some z := ⟨_, List.getElem?_eq_getElem hlt⟩
              obtain ⟨gk, rfl⟩ : ∃ gk, a6 = some ⟨gk, 0, none⟩ := by
                cases a6 with
                | none => have h1 := HA6.out.1 rfl; rw [h1] at hz; cases hz
                | some ad => obtain ⟨g, rfl⟩ := HA6.out.2 ad rfl; exact ⟨g, rfl⟩
              have hzc : wr.cell? ⟨gk, k, none⟩ = some (.int .i64 z) := by
                have := Own.elem elem3 hok hz 0 _ rfl
                simpa using this
              obtain ⟨tb, htb⟩ := hbk
              have hbc : wr.cell? ⟨Bs, 0, none⟩ = some (.pointer (some ⟨p, 0, none⟩)) := cellOf htb 0 rfl
              have HVC := Lib.hid (visible_c wr p m _ D z hdk (by have := HPL.out; omega))
              have HJK := Lib.hid hJk
              have HOKK := Lib.hid hok
              have HDK := Lib.hid hdk
              have HTB := Lib.hid htb
              have HZ := Lib.hid hz
              have HLT := Lib.hid hlt
              have HZK := Lib.hid hzk
              have HTK : Hid (ks.take (k + 1) = ks.take k ++ [z]) := by rw [List.take_add_one, hz]; rfl
              clear hJk hok hdk htb hz hlt hzk
              cases hv : vis D z with
              | false =>
                have HV := Lib.hid hv
                have HNE := Lib.hid (show decide (D.see z = zeroSec) = true from by unfold vis at hv; simpa using hv)
                clear hv
                gi_wp2_with fail
                refine ⟨trivial, (callsIn_wide.2 HVC.out).mono ?_⟩
                rintro e w7 ⟨rfl, hF7⟩
                have HF7 := Lib.hid hF7
                clear hF7
                gi_wp2_with (first
                  | (guard_target =~ wpListIn _ _ _ _ _ (⟨_, Op.build _ _, _, _, _, _⟩ :: _) _ _; refine wlIn rfl rfl (r_build (vs := []) rfl rfl (build80 _)) ?_; simp only [Act.put, List.setIfInBounds_toArray, List.set_cons_zero, List.set_cons_succ])
                  | (guard_target =~ wpListIn _ _ _ _ _ (⟨_, Op.binOp _ 80 _ _ _, _, _, _, _⟩ :: _) _ _; refine wlIn rfl rfl (r_eql (u1 := .agg (u8s (D.see z).1).toArray) (u2 := .agg (u8s zeroSec.1).toArray) rfl rfl rfl (guard80n _ _ _ _ _ _) (neq80 (D.see z) zeroSec _)) ?_; rw [HNE.out]; simp only [Act.put, List.setIfInBounds_toArray, List.set_cons_zero, List.set_cons_succ])
                  | fail)
                refine ⟨fun _ hf => (by cases hf), ?_⟩
                gi_wp2_with fail
                go_roundw
                case rel =>
                  refine ⟨k + 1, by go_num, by have := HLT.out; omega, ?_, HOKK.out.fr HF7.out (fun _ _ h => h), HDK.out.fr HF7.out (fun _ _ h => h), ⟨tb, HF7.out.keep HTB.out (fun h => h)⟩, Nat.le_trans HZK.out HF7.out.size⟩
                  rw [HTK.out, List.filter_append, List.filter_cons_of_neg (by rw [HV.out]; simp), List.filter_nil, List.append_nil]
                  exact HJ.out _ wr w7 none HJK.out (grownBy_non HF7.out) (fun r e => by cases e)
                case measure => have := HLT.out; simp [intOf] <;> omega
              | true =>
                have HV := Lib.hid hv
                have HNE := Lib.hid (show decide (D.see z = zeroSec) = false from by unfold vis at hv; simpa using hv)
                have HPRE := Lib.hid (show (ks.take k).filter (vis D) ++ [z] = (ks.take (k + 1)).filter (vis D) from by rw [HTK.out, List.filter_append, List.filter_cons_of_pos hv, List.filter_nil])
                have HLN := Lib.hid (show ((ks.take k).filter (vis D)).length < (sparseL D).length from by
                  obtain ⟨j, h2, h3⟩ := filter_take (vis D) ks (k + 1)
                  rw [← HPRE.out, HSP.out] at h3
                  rw [HSP.out] at h2
                  have := congrArg List.length h3
                  rw [List.length_append, List.length_take, List.length_singleton] at this
                  omega)
                clear hv
                gi_wp2_with fail
                refine ⟨trivial, (callsIn_wide.2 HVC.out).mono ?_⟩
                rintro e w7 ⟨rfl, hF7⟩
                have HF7 := Lib.hid hF7
                have hJ7 := HJ.out _ wr w7 none HJK.out (grownBy_non hF7) (fun r e => by cases e)
                obtain ⟨fn, tmps, assign, body, hy, hRd⟩ := HY.out _ z w7 hJ7 HLN.out
                have HRD := Lib.hid hRd
                clear hF7 hJ7 hRd
                gi_wp2_with (first
                  | (guard_target =~ wpListIn _ _ _ _ _ (⟨_, Op.build _ _, _, _, _, _⟩ :: _) _ _; refine wlIn rfl rfl (r_build (vs := []) rfl rfl (build80 _)) ?_; simp only [Act.put, List.setIfInBounds_toArray, List.set_cons_zero, List.set_cons_succ])
                  | (guard_target =~ wpListIn _ _ _ _ _ (⟨_, Op.binOp _ 80 _ _ _, _, _, _, _⟩ :: _) _ _; refine wlIn rfl rfl (r_eql (u1 := .agg (u8s (D.see z).1).toArray) (u2 := .agg (u8s zeroSec.1).toArray) rfl rfl rfl (guard80n _ _ _ _ _ _) (neq80 (D.see z) zeroSec _)) ?_; rw [HNE.out]; simp only [Act.put, List.setIfInBounds_toArray, List.set_cons_zero, List.set_cons_succ])
                  | fail)
                refine HRD.out.mono ?_
                rintro e W3 (⟨rfl, hJ3, hk3⟩ | ⟨rfl, hJx3⟩)
                · have HJ3 := Lib.hid hJ3
                  have HK3 := Lib.hid hk3
                  clear hJ3 hk3
                  gi_wp2_with fail
                  go_roundw
                  case rel =>
                    refine ⟨k + 1, by go_num, by have := HLT.out; omega, by rw [← HPRE.out]; exact HJ3.out, Own.kp HK3.out (HOKK.out.fr HF7.out (fun _ _ h => h)) HGE.out, DiskAt.kp HK3.out (HDK.out.fr HF7.out (fun _ _ h => h)) (fun q hq hs => (HST.out q hs).2.1 hq), ⟨tb, HK3.out.cells (HF7.out.keep HTB.out (fun h => h)) (fun hs => (HST.out Bs hs).2.2 rfl)⟩, Nat.le_trans HZK.out (Nat.le_trans HF7.out.size HK3.out.size)⟩
                  case measure => have := HLT.out; simp [intOf] <;> omega
                · have HJX := Lib.hid hJx3
                  clear hJx3
                  gi_wp2_with fail
                  refine bodyPost_ret (results_none rfl _ _ _) rfl ?_
                  obtain ⟨j, h2, h3⟩ := filter_take (vis D) ks (k + 1)
                  refine ⟨⟨_, rfl⟩, .inr ⟨_, ⟨j, ?_, ?_⟩, HJX.out⟩⟩
                  · rw [HSP.out] at h2; exact h2
                  · rw [HPRE.out, h3, HSP.out]
            · have HE := Lib.hid (show k = ks.length from by omega)
              have HJK := Lib.hid hJk
              have hge : ¬ ((k : Int) < (ks.length : Int)) := by omega
              clear hJk hok hdk hbk hzk hlt
              gi_wp2_with fail
              refine bodyPost_end (results_none rfl _ _ _) rfl ?_
              have h := HJK.out
              rw [HE.out, List.take_length, HSP.out] at h
              refine ⟨⟨_, rfl⟩, .inl ?_⟩
              first | exact h | exact ⟨_, rfl, h⟩
    · have hiter : ∃ o : Obj, wr.heap[w1.heap.size]? = some o ∧ o.isWalk = true := by
        obtain ⟨L, es, clock, since, c0, seen, hr, _⟩ := hR
        exact ⟨_, hr, rfl⟩
      have hJ2 : J [] w3 := HJ.out _ wr w3 (some w1.heap.size) hJs (grownBy_fr hF3) (fun r e => by cases e; exact ⟨by have := HS1.out; omega, hiter⟩)
      have hm3 := hm.fr hF3 (fun e => hmr e)
      obtain ⟨es, clock, hbm, -⟩ := hm3.ex
      obtain ⟨ob, hup, hmap⟩ := run_update (P := Try.prog) (t := 103) hm3 keyOk3 Try.underlying103 x.1 true
      have hFo : Fr (· = W.heap.size) w3 (w3.putObj W.heap.size ob) := (Fr.refl _ _).putObj _ _ (fun _ => rfl)
      have HJ4 : Hid (J [] (w3.putObj W.heap.size ob)) := HJ.out [] w3 _ (some W.heap.size) hJ2 (grownBy_fr hFo) (fun r e => by cases e; exact ⟨Nat.le_refl _, _, hbm, rfl⟩)
      have HF4 : Hid (Fr Non W (w3.putObj W.heap.size ob)) := (hF.trans hF3 (fun i hi e => by have e' : i = w1.heap.size := e; have := HS1.out; omega)).trans hFo (fun i hi e => by have e' : i = W.heap.size := e; omega)
      have HR4 := Lib.hid (hR2.fr hFo (fun e => hmr e.symm) (fun e => by have := HD.out.mlt; omega))
      have HR2 := Lib.hid hr
      have HE := Lib.hid he
      have HUP := Lib.hid hup
      have HMAP := Lib.hid hmap
      have HX := Lib.hid (And.intro hk (And.intro hl (And.intro hlt hsn)))
      clear hr he hup hmap hk hl hlt hsn hbm hm3 hJ2 hiter hR2 hF3 hF hm hJs hR hx hFo
      gi_wp2_with (first
        | (guard_target =~ wpListIn _ _ _ _ _ (⟨_, Op.next _ _, _, _, _, _⟩ :: _) _ _; refine wlIn rfl rfl (r_next (it := .tmp 22) (b := false) rfl rfl rfl HR2.out) ?_; simp only [Act.put, List.setIfInBounds_toArray, List.set_cons_zero, List.set_cons_succ])
        | (guard_target =~ wpListIn _ _ _ _ _ (⟨_, Op.entry _, _, _, _, _⟩ :: _) _ _; refine wlIn rfl rfl (r_entry (it := .tmp 22) rfl rfl HE.out) ?_; simp only [Act.put, List.setIfInBounds_toArray, List.set_cons_zero, List.set_cons_succ])
        | (guard_target =~ wpListIn _ _ _ _ _ (⟨_, Op.mapUpdate _ _ _ _, _, _, _, _⟩ :: _) _ _; refine wuIn rfl rfl (r_mapUpdate rfl rfl rfl rfl HUP.out) ?_; generalize w3.putObj W.heap.size ob = w4 at *; simp only [Act.put, List.setIfInBounds_toArray, List.set_cons_zero, List.set_cons_succ])
        | fail)
      go_roundw
      case rel => exact ⟨done ++ [x], _, HR4.out, HMAP.out, (fun z => by rw [keys_put, HX.out.1 z]; simp [or_comm, eq_comm]), by have := length_aput x.1 true lr; have := HX.out; simp; omega, HF4.out, HJ4.out⟩
      case measure =>
        have h1 := HR4.out.seenAt
        have h2 := HX.out
        simp at h1
        omega
end Go.Proofs.Yticgkbpmaakkiaa
