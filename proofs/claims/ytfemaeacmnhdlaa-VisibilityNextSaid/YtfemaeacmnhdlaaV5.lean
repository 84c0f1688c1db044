/-
  The closure: its walk.
-/
import Derived.Test.YtfemaeacmnhdlaaV4
namespace Go.Proofs.Ytfemaeacmnhdlaa
open Go.RowKit

def IsTo (w w' : World) (ms : Nat) (e : Ending) (q : Bool × St) : Prop := ∃ y, e = .returned (.bool y) ∧ y = q.1 ∧ ∃ l, MapAt w' ms idK intV l ∧ aget_ok l q.2 ∧ Fr (· = ms) w w'
theorem IsTo.mk (rows : Id → Option Row) (lost : Id → Bool) (now : Int) (n : Nat) (r : Row) (st : St) (h : st r.id = 0) (y : Bool) (st2 : St)
    (hq : (match r.refs.getLast? with
        | none => (true, upd st r.id 1)
        | some q => match rows q with
          | some rq => isF rows lost now n rq (upd st r.id 1)
          | none => (lost q || decide (r.date + 2880 ≤ now), upd st r.id 1)) = (y, st2)) {w w' : World} {ms : Nat} {l : List (Id × Int)} (hm : MapAt w' ms idK intV l)
    (ho : aget_ok l (if y then upd (upd st2 r.id 2) r.id 3 else upd st2 r.id 2)) (hf : Fr (· = ms) w w') : IsTo w w' ms (.returned (.bool y)) (isF rows lost now (n + 1) r st) := by
  rw [isF_end rows lost now n r st h y st2 hq]
  exact ⟨y, rfl, rfl, l, hm, ho, hf⟩

set_option maxRecDepth 100000 in
set_option maxHeartbeats 1000000 in
theorem is_A (b13 b7 b14 b8 b5 ms mr ml : Nat) (rows : Id → Option Row) (lost : Id → Bool) (now : Int) (lr : List (Id × Row)) (n : Nat) (r : Row) (st : St) (lst : List (Id × Int)) (w : World)
    (hE : Env w b13 b7 b14 b8 b5 ms mr ml rows lost now lr) (hr : rows r.id = some r) (hm : MapAt w ms idK intV lst) (ho : aget_ok lst st) (hz : st r.id ≠ 0) :
    Calls Try.prog 107 #[rowV r, .pointer (some ⟨b13, 0, none⟩), .pointer (some ⟨b7, 0, none⟩), .pointer (some ⟨b14, 0, none⟩), .pointer (some ⟨b8, 0, none⟩), .pointer (some ⟨b5, 0, none⟩)] w fun e w' => IsTo w w' ms e (isF rows lost now (n + 1) r st) := by
  obtain ⟨es0, cl0, hes, -⟩ := hm.ex
  have HNM : ∀ {b : Nat} {cs : Array Value} {t : TypeId}, w.heap[b]? = some (.cells cs t) → b ≠ ms := fun hb e => by rw [e, hes] at hb; cases hb
  have HN13 := Lib.hid (HNM hE.c13)
  have HNBX := Lib.hid (show w.heap.size ≠ ms from fun e => by have := hm.lt; omega)
  have hb1 := heap_alloc_new w (.cells (rowC r).toArray 36)
  have hF1 : Fr (· = ms) w (w.alloc (.cells (rowC r).toArray 36)) := (Fr.refl _ w).alloc _
  have hF1n : Fr Non w (w.alloc (.cells (rowC r).toArray 36)) := (Fr.refl _ w).alloc _
  obtain ⟨w1, hw1⟩ : ∃ w1, w.alloc (.cells (rowC r).toArray 36) = w1 := ⟨_, rfl⟩
  rw [hw1] at hb1 hF1 hF1n
  have hm1 := hm.fr hF1n (fun h => h)
  have x13 : w1.cell? ⟨b13, 0, none⟩ = some (.map (some ms)) := cellOf (hF1n.keep hE.c13 (fun h => h)) 0 rfl
  have HID1 := Lib.hid (idC_box hb1)
  have hlk := run_lookup (P := Try.prog) (t := 99) hm1 keyId Try.underlying99 (zero3 w1) r.id false
  have hlk2 : (Instr.lookup 99 (.map (some ms)) (idK r.id) false).run Try.prog w1 = .ok (.int .i64 (st r.id)) w1 := by
    rw [hlk, ← ho r.id]
    cases aget r.id lst <;> rfl

  have HLK := Lib.hid hlk2
  have HZ := Lib.hid hz
  have HX : Hid (IsTo w w1 ms (.returned (.bool (decide (st r.id = 3)))) (isF rows lost now (n + 1) r st)) := ⟨_, rfl, by rw [isF_dec rows lost now n r st hz], lst, hm1, by rw [isF_dec rows lost now n r st hz]; exact ho, hF1⟩
  clear hlk hlk2 hm1 hF1 hF1n hb1 hm ho hE hr HNM hes hz
  generalize hv : st r.id = v at *
  have h0 : (v == 0) = false := beq_eq_false_iff_ne.2 HZ.out
  have HV := Lib.hid hv
  clear hv
  by_cases h3 : v = 3
  · subst h3
    go_enter Try.func107, Try.ntmps107
    go_wp2_with (first
      | (guard_target =~ wpList _ _ _ (⟨_, Op.box 36 _, _, _, _, _⟩ :: _) _ _; refine wl rfl (r_boxA (cs := (rowC r).toArray) rfl rfl) ?_; rw [hw1])
      | (guard_target =~ wpList _ _ _ (⟨some 14, Op.load 31 _, _, _, _, _⟩ :: _) _ _; refine wl rfl (r_load (b := w.heap.size) (i := 0) rfl rfl HID1.out Try.underlying31 rfl (by rw [sz31, idC_length])) ?_)
      | (guard_target =~ wpList _ _ _ (⟨some 19, Op.load 31 _, _, _, _, _⟩ :: _) _ _; refine wl rfl (r_load (b := w.heap.size) (i := 0) rfl rfl HID1.out Try.underlying31 rfl (by rw [sz31, idC_length])) ?_)
      | (guard_target =~ wpList _ _ _ (⟨some 24, Op.load 31 _, _, _, _, _⟩ :: _) _ _; refine wl rfl (r_load (b := w.heap.size) (i := 0) rfl rfl HID1.out Try.underlying31 rfl (by rw [sz31, idC_length])) ?_)
      | (guard_target =~ wpList _ _ _ (⟨_, Op.lookup 99 _ _ _, _, _, _, _⟩ :: _) _ _; refine wl rfl (r_lookup rfl rfl rfl HLK.out) ?_)
      | (guard_target =~ wpList _ _ _ (⟨_, Op.mapUpdate _ _ _ (.const (.int .i64 1)), _, _, _, _⟩ :: _) _ _; refine wu rfl (r_mapUpdate rfl rfl rfl rfl HUP1.out) ?_)
      | fail)
    go_ret
    exact HX.out
  · have h3' : (v == 3) = false := beq_eq_false_iff_ne.2 h3
    have HD : Hid (decide (v = 3) = false) := decide_eq_false h3
    rw [HD.out] at HX
    clear h3
    go_enter Try.func107, Try.ntmps107
    go_wp2_with (first
      | (guard_target =~ wpList _ _ _ (⟨_, Op.box 36 _, _, _, _, _⟩ :: _) _ _; refine wl rfl (r_boxA (cs := (rowC r).toArray) rfl rfl) ?_; rw [hw1])
      | (guard_target =~ wpList _ _ _ (⟨some 14, Op.load 31 _, _, _, _, _⟩ :: _) _ _; refine wl rfl (r_load (b := w.heap.size) (i := 0) rfl rfl HID1.out Try.underlying31 rfl (by rw [sz31, idC_length])) ?_)
      | (guard_target =~ wpList _ _ _ (⟨some 19, Op.load 31 _, _, _, _, _⟩ :: _) _ _; refine wl rfl (r_load (b := w.heap.size) (i := 0) rfl rfl HID1.out Try.underlying31 rfl (by rw [sz31, idC_length])) ?_)
      | (guard_target =~ wpList _ _ _ (⟨some 24, Op.load 31 _, _, _, _, _⟩ :: _) _ _; refine wl rfl (r_load (b := w.heap.size) (i := 0) rfl rfl HID1.out Try.underlying31 rfl (by rw [sz31, idC_length])) ?_)
      | (guard_target =~ wpList _ _ _ (⟨_, Op.lookup 99 _ _ _, _, _, _, _⟩ :: _) _ _; refine wl rfl (r_lookup rfl rfl rfl HLK.out) ?_)
      | (guard_target =~ wpList _ _ _ (⟨_, Op.mapUpdate _ _ _ (.const (.int .i64 1)), _, _, _, _⟩ :: _) _ _; refine wu rfl (r_mapUpdate rfl rfl rfl rfl HUP1.out) ?_)
      | fail)
    go_ret
    exact HX.out

set_option maxRecDepth 100000 in
set_option maxHeartbeats 1000000 in
theorem is_B1 (b13 b7 b14 b8 b5 ms mr ml : Nat) (rows : Id → Option Row) (lost : Id → Bool) (now : Int) (lr : List (Id × Row)) (n : Nat) (r : Row) (st : St) (lst : List (Id × Int)) (w : World)
    (hE : Env w b13 b7 b14 b8 b5 ms mr ml rows lost now lr) (hr : rows r.id = some r) (hm : MapAt w ms idK intV lst) (ho : aget_ok lst st) (hz : st r.id = 0) (hn : r.refs = []) :
    Calls Try.prog 107 #[rowV r, .pointer (some ⟨b13, 0, none⟩), .pointer (some ⟨b7, 0, none⟩), .pointer (some ⟨b14, 0, none⟩), .pointer (some ⟨b8, 0, none⟩), .pointer (some ⟨b5, 0, none⟩)] w fun e w' => IsTo w w' ms e (isF rows lost now (n + 1) r st) := by
  obtain ⟨es0, cl0, hes, -⟩ := hm.ex
  have HNM : ∀ {b : Nat} {cs : Array Value} {t : TypeId}, w.heap[b]? = some (.cells cs t) → b ≠ ms := fun hb e => by rw [e, hes] at hb; cases hb
  have HN13 := Lib.hid (HNM hE.c13)
  have HNBX := Lib.hid (show w.heap.size ≠ ms from fun e => by have := hm.lt; omega)
  have hb1 := heap_alloc_new w (.cells (rowC r).toArray 36)
  have hF1 : Fr (· = ms) w (w.alloc (.cells (rowC r).toArray 36)) := (Fr.refl _ w).alloc _
  have hF1n : Fr Non w (w.alloc (.cells (rowC r).toArray 36)) := (Fr.refl _ w).alloc _
  obtain ⟨w1, hw1⟩ : ∃ w1, w.alloc (.cells (rowC r).toArray 36) = w1 := ⟨_, rfl⟩
  rw [hw1] at hb1 hF1 hF1n
  have hm1 := hm.fr hF1n (fun h => h)
  have x13 : w1.cell? ⟨b13, 0, none⟩ = some (.map (some ms)) := cellOf (hF1n.keep hE.c13 (fun h => h)) 0 rfl
  have HID1 := Lib.hid (idC_box hb1)
  have hlk := run_lookup (P := Try.prog) (t := 99) hm1 keyId Try.underlying99 (zero3 w1) r.id false
  have hlk2 : (Instr.lookup 99 (.map (some ms)) (idK r.id) false).run Try.prog w1 = .ok (.int .i64 (st r.id)) w1 := by
    rw [hlk, ← ho r.id]
    cases aget r.id lst <;> rfl

  obtain ⟨o1, hup1, hmap1⟩ := run_update (P := Try.prog) (t := 99) hm1 keyId Try.underlying99 r.id (1 : Int)
  have hF2 : Fr (· = ms) w (w1.putObj ms o1) := hF1.putObj _ _ (fun _ => rfl)
  have hF12 : Fr (· = ms) w1 (w1.putObj ms o1) := (Fr.refl _ _).putObj _ _ (fun _ => rfl)
  obtain ⟨w2, hw2⟩ : ∃ w2, w1.putObj ms o1 = w2 := ⟨_, rfl⟩
  rw [hw2] at hup1 hmap1 hF2 hF12
  have HB13 := Lib.hid (hF2.keep hE.c13 (HNM hE.c13))
  have x132 : w2.cell? ⟨b13, 0, none⟩ = some (.map (some ms)) := cellOf HB13.out 0 rfl
  have HBX := Lib.hid (hF12.keep hb1 (fun e => HNBX.out e))
  have xrefs : w2.cell? ⟨w.heap.size, 50, none⟩ = some (.slice r.ra r.refs.length r.rc) := cellOf HBX.out 50 (by rw [List.getElem?_toArray]; exact rowC_refs r)
  have HUP1 := Lib.hid hup1
  have HM2 := Lib.hid hmap1
  have HR2 := Lib.hid (ho.put r.id 1)
  have HF2 := Lib.hid hF2

  have HZ := Lib.hid hz
  have HLK := Lib.hid (show (Instr.lookup 99 (.map (some ms)) (idK r.id) false).run Try.prog w1 = .ok (.int .i64 0) w1 from hz ▸ hlk2)
  clear hlk hlk2

  have HQ : Hid ((match r.refs.getLast? with
          | none => (true, upd st r.id 1)
          | some q => match rows q with
            | some rq => isF rows lost now n rq (upd st r.id 1)
            | none => (lost q || decide (r.date + 2880 ≤ now), upd st r.id 1)) = (true, upd st r.id 1)) := by rw [hn]; rfl
  rw [hn] at xrefs
  have HMT := HM2
  have HRT := HR2
  have HFT := HF2
  have HB13T := HB13
  have HBXT := HBX

  have hT0 : aget_ok (aput r.id 1 lst) (upd st r.id 1) := HRT.out
  obtain ⟨o8, hup8, hmap8⟩ := run_update (P := Try.prog) (t := 99) HMT.out keyId Try.underlying99 r.id (2 : Int)
  have hF8 : Fr (· = ms) w2 (w2.putObj ms o8) := (Fr.refl _ _).putObj _ _ (fun _ => rfl)
  obtain ⟨o9, hup9, hmap9⟩ := run_update (P := Try.prog) (t := 99) hmap8 keyId Try.underlying99 r.id (3 : Int)
  have hF9 : Fr (· = ms) w2 ((w2.putObj ms o8).putObj ms o9) := hF8.putObj _ _ (fun _ => rfl)
  have x13 := cellOf HB13T.out 0 rfl
  have y13 := hF8.cell x13 (fun e => HN13.out e)
  have HIDT := Lib.hid (idC_box HBXT.out)
  have HIDT8 := Lib.hid (idC_box (hF8.keep HBXT.out (fun e => HNBX.out e)))
  have HUP8 := Lib.hid hup8
  have HUP9 := Lib.hid hup9
  have HFN8 := Lib.hid (And.intro hmap8 (And.intro (hT0.put r.id 2) (HFT.out.trans hF8 (fun _ _ e => e))))
  have HFN9 := Lib.hid (And.intro hmap9 (And.intro ((hT0.put r.id 2).put r.id 3) (HFT.out.trans hF9 (fun _ _ e => e))))
  clear hT0 hup8 hmap8 hF8 hup9 hmap9 hF9

  clear hm1 hF1n hb1 hm ho hE hr HNM hes hF1 hF2 hF12 hup1 hmap1 hz hn

  go_enter Try.func107, Try.ntmps107
  go_wp2_with (first
    | (guard_target =~ wpList _ _ _ (⟨_, Op.box 36 _, _, _, _, _⟩ :: _) _ _; refine wl rfl (r_boxA (cs := (rowC r).toArray) rfl rfl) ?_; rw [hw1])
    | (guard_target =~ wpList _ _ _ (⟨some 14, Op.load 31 _, _, _, _, _⟩ :: _) _ _; refine wl rfl (r_load (b := w.heap.size) (i := 0) rfl rfl HID1.out Try.underlying31 rfl (by rw [sz31, idC_length])) ?_)
    | (guard_target =~ wpList _ _ _ (⟨some 19, Op.load 31 _, _, _, _, _⟩ :: _) _ _; refine wl rfl (r_load (b := w.heap.size) (i := 0) rfl rfl HID1.out Try.underlying31 rfl (by rw [sz31, idC_length])) ?_)
    | (guard_target =~ wpList _ _ _ (⟨some 24, Op.load 31 _, _, _, _, _⟩ :: _) _ _; refine wl rfl (r_load (b := w.heap.size) (i := 0) rfl rfl HID1.out Try.underlying31 rfl (by rw [sz31, idC_length])) ?_)
    | (guard_target =~ wpList _ _ _ (⟨_, Op.lookup 99 _ _ _, _, _, _, _⟩ :: _) _ _; refine wl rfl (r_lookup rfl rfl rfl HLK.out) ?_)
    | (guard_target =~ wpList _ _ _ (⟨_, Op.mapUpdate _ _ _ (.const (.int .i64 1)), _, _, _, _⟩ :: _) _ _; refine wu rfl (r_mapUpdate rfl rfl rfl rfl HUP1.out) ?_)
    | (guard_target =~ wpList _ _ _ (⟨some 60, Op.load 31 _, _, _, _, _⟩ :: _) _ _; refine wl rfl (r_load (b := w.heap.size) (i := 0) rfl rfl HIDT.out Try.underlying31 rfl (by rw [sz31, idC_length])) ?_)
    | (guard_target =~ wpList _ _ _ (⟨some 64, Op.load 31 _, _, _, _, _⟩ :: _) _ _; refine wl rfl (r_load (b := w.heap.size) (i := 0) rfl rfl HIDT8.out Try.underlying31 rfl (by rw [sz31, idC_length])) ?_)
    | (guard_target =~ wpList _ _ _ (⟨_, Op.mapUpdate _ _ _ (.const (.int .i64 2)), _, _, _, _⟩ :: _) _ _; refine wu rfl (r_mapUpdate rfl rfl rfl rfl HUP8.out) ?_)
    | (guard_target =~ wpList _ _ _ (⟨_, Op.mapUpdate _ _ _ (.const (.int .i64 3)), _, _, _, _⟩ :: _) _ _; refine wu rfl (r_mapUpdate rfl rfl rfl rfl HUP9.out) ?_)
    | fail)
  go_ret
  exact IsTo.mk rows lost now n r st HZ.out true _ HQ.out HFN9.out.1 HFN9.out.2.1 HFN9.out.2.2

set_option maxRecDepth 100000 in
set_option maxHeartbeats 1000000 in
theorem is_B2n (b13 b7 b14 b8 b5 ms mr ml : Nat) (rows : Id → Option Row) (lost : Id → Bool) (now : Int) (lr : List (Id × Row)) (n : Nat) (r : Row) (st : St) (lst : List (Id × Int)) (w : World)
    (hE : Env w b13 b7 b14 b8 b5 ms mr ml rows lost now lr) (hr : rows r.id = some r) (hm : MapAt w ms idK intV lst) (ho : aget_ok lst st) (hz : st r.id = 0) (hne : r.refs.length ≠ 0) (hlast : ∀ q, r.refs.getLast? = some q → rows q = none ∧ lost q = true) :
    Calls Try.prog 107 #[rowV r, .pointer (some ⟨b13, 0, none⟩), .pointer (some ⟨b7, 0, none⟩), .pointer (some ⟨b14, 0, none⟩), .pointer (some ⟨b8, 0, none⟩), .pointer (some ⟨b5, 0, none⟩)] w fun e w' => IsTo w w' ms e (isF rows lost now (n + 1) r st) := by
  obtain ⟨es0, cl0, hes, -⟩ := hm.ex
  have HNM : ∀ {b : Nat} {cs : Array Value} {t : TypeId}, w.heap[b]? = some (.cells cs t) → b ≠ ms := fun hb e => by rw [e, hes] at hb; cases hb
  have HN13 := Lib.hid (HNM hE.c13)
  have HNBX := Lib.hid (show w.heap.size ≠ ms from fun e => by have := hm.lt; omega)
  have hb1 := heap_alloc_new w (.cells (rowC r).toArray 36)
  have hF1 : Fr (· = ms) w (w.alloc (.cells (rowC r).toArray 36)) := (Fr.refl _ w).alloc _
  have hF1n : Fr Non w (w.alloc (.cells (rowC r).toArray 36)) := (Fr.refl _ w).alloc _
  obtain ⟨w1, hw1⟩ : ∃ w1, w.alloc (.cells (rowC r).toArray 36) = w1 := ⟨_, rfl⟩
  rw [hw1] at hb1 hF1 hF1n
  have hm1 := hm.fr hF1n (fun h => h)
  have x13 : w1.cell? ⟨b13, 0, none⟩ = some (.map (some ms)) := cellOf (hF1n.keep hE.c13 (fun h => h)) 0 rfl
  have HID1 := Lib.hid (idC_box hb1)
  have hlk := run_lookup (P := Try.prog) (t := 99) hm1 keyId Try.underlying99 (zero3 w1) r.id false
  have hlk2 : (Instr.lookup 99 (.map (some ms)) (idK r.id) false).run Try.prog w1 = .ok (.int .i64 (st r.id)) w1 := by
    rw [hlk, ← ho r.id]
    cases aget r.id lst <;> rfl

  obtain ⟨o1, hup1, hmap1⟩ := run_update (P := Try.prog) (t := 99) hm1 keyId Try.underlying99 r.id (1 : Int)
  have hF2 : Fr (· = ms) w (w1.putObj ms o1) := hF1.putObj _ _ (fun _ => rfl)
  have hF12 : Fr (· = ms) w1 (w1.putObj ms o1) := (Fr.refl _ _).putObj _ _ (fun _ => rfl)
  obtain ⟨w2, hw2⟩ : ∃ w2, w1.putObj ms o1 = w2 := ⟨_, rfl⟩
  rw [hw2] at hup1 hmap1 hF2 hF12
  have HB13 := Lib.hid (hF2.keep hE.c13 (HNM hE.c13))
  have x132 : w2.cell? ⟨b13, 0, none⟩ = some (.map (some ms)) := cellOf HB13.out 0 rfl
  have HBX := Lib.hid (hF12.keep hb1 (fun e => HNBX.out e))
  have xrefs : w2.cell? ⟨w.heap.size, 50, none⟩ = some (.slice r.ra r.refs.length r.rc) := cellOf HBX.out 50 (by rw [List.getElem?_toArray]; exact rowC_refs r)
  have HUP1 := Lib.hid hup1
  have HM2 := Lib.hid hmap1
  have HR2 := Lib.hid (ho.put r.id 1)
  have HF2 := Lib.hid hF2

  have HZ := Lib.hid hz
  have HLK := Lib.hid (show (Instr.lookup 99 (.map (some ms)) (idK r.id) false).run Try.prog w1 = .ok (.int .i64 0) w1 from hz ▸ hlk2)
  clear hlk hlk2

  obtain ⟨q, hq⟩ : ∃ q, r.refs[r.refs.length - 1]? = some q := ⟨_, List.getElem?_eq_getElem (by omega)⟩
  have hql : r.refs.getLast? = some q := by rw [List.getLast?_eq_getElem?]; exact hq
  obtain ⟨hrq, hlost⟩ := hlast q hql
  obtain ⟨b, o, hra, hrng⟩ := (hE.fr hm hF2).good r.id r hr |>.2.2.get hq
  have hlen20 := (hE.good r.id r hr).2.1.2.2
  have hlen1 : (1 : Int) ≤ (r.refs.length : Int) := by omega
  have hne0 : ((r.refs.length : Int) == 0) = false := beq_eq_false_iff_ne.2 (by omega)
  have hlen2 : (r.refs.length : Int) ≤ 20 := by omega
  have hix : ((r.refs.length : Int) - 1).toNat = r.refs.length - 1 := by omega
  rw [hra] at xrefs
  have HRNG := Lib.hid hrng
  have hF23 : Fr Non w2 (w2.alloc (.cells (idC q).toArray 31)) := (Fr.refl _ w2).alloc _
  have hb9 := heap_alloc_new w2 (.cells (idC q).toArray 31)
  obtain ⟨w3, hw3⟩ : ∃ w3, w2.alloc (.cells (idC q).toArray 31) = w3 := ⟨_, rfl⟩
  rw [hw3] at hF23 hb9
  have hE3 := (hE.fr hm hF2).fr (ms := ms) HM2.out (hF23.mono (fun _ _ h => h.elim))
  have x7 : w3.cell? ⟨b7, 0, none⟩ = some (.map (some mr)) := cellOf hE3.c7 0 rfl
  have HID9 := Lib.hid (show w3.rangeAt w2.heap.size 0 (idC q) from rangeAt_of hb9 0 _ (by simp))
  have hlkr := run_lookup (P := Try.prog) (t := 152) hE3.hrows.1 keyId Try.underlying152 (zero36 w3) q true
  rw [hE3.hrows.2 q] at hlkr
  have hp : r.refs.length - 1 < r.refs.length := by omega
  rw [hrq] at hlkr
  have HLKR := Lib.hid hlkr

  have hF34 : Fr Non w3 (w3.alloc (.cells (rowC zeroRow).toArray 36)) := (Fr.refl _ w3).alloc _
  have hb10 := heap_alloc_new w3 (.cells (rowC zeroRow).toArray 36)
  obtain ⟨w4, hw4⟩ : ∃ w4, w3.alloc (.cells (rowC zeroRow).toArray 36) = w4 := ⟨_, rfl⟩
  rw [hw4] at hF34 hb10
  have hF24 : Fr Non w2 w4 := hF23.trans hF34 (fun _ _ h => h)
  have hE4 := hE3.fr (ms := ms) (HM2.out.fr hF23 (fun h => h)) (hF34.mono (fun _ _ h => h.elim))
  have HM4 := Lib.hid (HM2.out.fr hF24 (fun h => h))
  have HF4 := Lib.hid (HF2.out.trans (hF24.mono (T := (· = ms)) (fun _ _ h => h.elim)) (fun _ _ e => e))
  have HB134 := Lib.hid (hF24.keep HB13.out (fun h => h))
  have HBX4 := Lib.hid (hF24.keep HBX.out (fun h => h))
  have HD0 := Lib.hid ((hE4.good r.id r hr).2.1.1)
  have HD1 := Lib.hid ((hE4.good r.id r hr).2.1.2.1)

  have HQ := Lib.hid (show (match r.refs.getLast? with
          | none => (true, upd st r.id 1)
          | some q => match rows q with
            | some rq => isF rows lost now n rq (upd st r.id 1)
            | none => (lost q || decide (r.date + 2880 ≤ now), upd st r.id 1)) = (true, upd st r.id 1) from by rw [hql]; simp only [hrq]; rw [hlost]; simp)

  have HS : Hid (∀ W, Fr Non w4 W → (fun W : World => W.cell? ⟨b8, 0, none⟩ = some (.map (some ml)) ∧ W.rangeAt w2.heap.size 0 (idC q) ∧ (Instr.lookup 96 (.map (some ml)) (idK q) false).run Try.prog W = .ok (.bool (lost q)) W ∧ W.cell? ⟨b5, 0, none⟩ = some (.int .i64 now) ∧ W.rangeAt w.heap.size 0 (rowC r)) W) := by
    intro W hW
    obtain ⟨ll, hl1, hl2⟩ := hE4.hlost
    have hlk9 := run_lookup (P := Try.prog) (t := 96) (hl1.fr hW (fun h => h)) keyId Try.underlying96 (zero4 W) q false
    refine ⟨cellOf (hW.keep hE4.c8 (fun h => h)) 0 rfl, rangeAt_of (hW.keep (hF34.keep hb9 (fun h => h)) (fun h => h)) 0 _ (by simp), ?_, cellOf (hW.keep hE4.c5 (fun h => h)) 0 rfl, rangeAt_of (hW.keep HBX4.out (fun h => h)) 0 _ (by simp)⟩
    rw [hlk9, ← hl2 q]
    cases aget q ll <;> rfl
  rw [hlost] at HS
  clear hlkr hm1 hF1n hb1 hm ho hE hr HNM hes hF1 hF2 hF12 hup1 hmap1 hrng hq hql hrq hE3 hE4 hF23 hF34 hF24 hb9 hb10 hz hra

  go_enter Try.func107, Try.ntmps107
  go_wp2_with (first
    | (guard_target =~ wpList _ _ _ (⟨_, Op.box 36 _, _, _, _, _⟩ :: _) _ _; refine wl rfl (r_boxA (cs := (rowC r).toArray) rfl rfl) ?_; rw [hw1])
    | (guard_target =~ wpList _ _ _ (⟨some 14, Op.load 31 _, _, _, _, _⟩ :: _) _ _; refine wl rfl (r_load (b := w.heap.size) (i := 0) rfl rfl HID1.out Try.underlying31 rfl (by rw [sz31, idC_length])) ?_)
    | (guard_target =~ wpList _ _ _ (⟨some 19, Op.load 31 _, _, _, _, _⟩ :: _) _ _; refine wl rfl (r_load (b := w.heap.size) (i := 0) rfl rfl HID1.out Try.underlying31 rfl (by rw [sz31, idC_length])) ?_)
    | (guard_target =~ wpList _ _ _ (⟨some 24, Op.load 31 _, _, _, _, _⟩ :: _) _ _; refine wl rfl (r_load (b := w.heap.size) (i := 0) rfl rfl HID1.out Try.underlying31 rfl (by rw [sz31, idC_length])) ?_)
    | (guard_target =~ wpList _ _ _ (⟨_, Op.lookup 99 _ _ _, _, _, _, _⟩ :: _) _ _; refine wl rfl (r_lookup rfl rfl rfl HLK.out) ?_)
    | (guard_target =~ wpList _ _ _ (⟨_, Op.mapUpdate _ _ _ (.const (.int .i64 1)), _, _, _, _⟩ :: _) _ _; refine wu rfl (r_mapUpdate rfl rfl rfl rfl HUP1.out) ?_)
    | (guard_target =~ wpList _ _ _ (⟨some 38, Op.load 31 _, _, _, _, _⟩ :: _) _ _; refine wl rfl (r_load (b := b) (i := o + (r.refs.length - 1) * 32) rfl rfl HRNG.out Try.underlying31 rfl (by rw [sz31, idC_length])) ?_)
    | (guard_target =~ wpList _ _ _ (⟨_, Op.alloc 31, _, _, _, _⟩ :: _) _ _; refine wl rfl (r_allocA rfl (zero31 _)) ?_)
    | (guard_target =~ wpList _ _ _ (⟨_, Op.store 31 _ _, _, _, _, _⟩ :: _) _ _; refine wu rfl (r_store_new (c' := (idC q).toArray) rfl rfl rfl (by rw [sz31]; simp [idC_length]) (by simp [idC_length]) (all_oneCell_toArray (idC_one q))) ?_; rw [hw3])
    | (guard_target =~ wpList _ _ _ (⟨some 41, Op.load 31 _, _, _, _, _⟩ :: _) _ _; refine wl rfl (r_load (b := w2.heap.size) (i := 0) rfl rfl HID9.out Try.underlying31 rfl (by rw [sz31, idC_length])) ?_)
    | (guard_target =~ wpList _ _ _ (⟨_, Op.lookup 152 _ _ _, _, _, _, _⟩ :: _) _ _; refine wl rfl (r_lookup rfl rfl rfl HLKR.out) ?_)
    | (guard_target =~ wpList _ _ _ (⟨_, Op.alloc 36, _, _, _, _⟩ :: _) _ _; refine wl rfl (r_allocA rfl (zero36 _)) ?_)
    | (guard_target =~ wpList _ _ _ (⟨_, Op.store 36 _ _, _, _, _, _⟩ :: _) _ _; refine wu rfl (r_store_new (c' := (rowC zeroRow).toArray) rfl rfl rfl (by rw [sz36]; simp [rowC_length]) (by simp [rowC_length]) (all_oneCell_toArray (rowC_one zeroRow))) ?_; rw [hw4])
    | fail)
  refine rc (fun W : World => W.cell? ⟨b8, 0, none⟩ = some (.map (some ml)) ∧ W.rangeAt w2.heap.size 0 (idC q) ∧ (Instr.lookup 96 (.map (some ml)) (idK q) false).run Try.prog W = .ok (.bool true) W ∧ W.cell? ⟨b5, 0, none⟩ = some (.int .i64 now) ∧ W.rangeAt w.heap.size 0 (rowC r)) 9 (by kernel_rfl) ?_
  have hS : (fun W : World => W.cell? ⟨b8, 0, none⟩ = some (.map (some ml)) ∧ W.rangeAt w2.heap.size 0 (idC q) ∧ (Instr.lookup 96 (.map (some ml)) (idK q) false).run Try.prog W = .ok (.bool true) W ∧ W.cell? ⟨b5, 0, none⟩ = some (.int .i64 now) ∧ W.rangeAt w.heap.size 0 (rowC r)) w4.drew := HS.out _ ((Fr.refl Non w4).drew)
  refine tc (i := 0) (v := .map (some ml)) rfl 8 (by kernel_rfl) (fun _ _ _ h => h) rfl (fun W0 hw => by obtain ⟨hw0, hw1, hw2, hw3, hw4⟩ := hw; unfold RunV; go_simp) hS ?_
  simp only [Act.put, List.setIfInBounds_toArray, List.set_cons_zero, List.set_cons_succ]
  refine tc (i := 1) (v := .agg (idC q).toArray) rfl 8 (by kernel_rfl) (fun _ _ _ h => h) rfl (fun W0 hw => r_load (b := w2.heap.size) (i := 0) rfl rfl hw.2.1 Try.underlying31 rfl (by rw [sz31, idC_length])) hS ?_
  simp only [Act.put, List.setIfInBounds_toArray, List.set_cons_zero, List.set_cons_succ]
  refine tc (i := 2) (v := .bool true) rfl 8 (by kernel_rfl) (fun _ _ _ h => h) rfl (fun W0 hw => r_lookup rfl rfl rfl hw.2.2.1) hS ?_
  simp only [Act.put, List.setIfInBounds_toArray, List.set_cons_zero, List.set_cons_succ]
  refine tp (i := 3) (v := .bool true) rfl (by kernel_rfl) (fun _ _ _ h => h) rfl (fun W0 => r_move rfl rfl) (.inr hS) ?_
  simp only [Act.put, List.setIfInBounds_toArray, List.set_cons_zero, List.set_cons_succ]
  refine tpn (i := 4) rfl (by kernel_rfl) (fun _ _ _ h => h) rfl (.inr hS) ?_
  simp only [Act.put, List.setIfInBounds_toArray, List.set_cons_zero, List.set_cons_succ]
  refine tpn (i := 5) rfl (by kernel_rfl) (fun _ _ _ h => h) rfl (.inr hS) ?_
  simp only [Act.put, List.setIfInBounds_toArray, List.set_cons_zero, List.set_cons_succ]
  refine tpn (i := 6) rfl (by kernel_rfl) (fun _ _ _ h => h) rfl (.inr hS) ?_
  simp only [Act.put, List.setIfInBounds_toArray, List.set_cons_zero, List.set_cons_succ]
  refine tpn (i := 7) rfl (by kernel_rfl) (fun _ _ _ h => h) rfl (.inr hS) ?_
  simp only [Act.put, List.setIfInBounds_toArray, List.set_cons_zero, List.set_cons_succ]
  refine tp (i := 8) (v := .bool true) rfl (by kernel_rfl) (fun _ _ _ h => h) rfl (fun W0 => r_pick rfl rfl rfl) (.inr hS) ?_
  simp only [Act.put, List.setIfInBounds_toArray, List.set_cons_zero, List.set_cons_succ]
  refine oc2 (i := 9) (v := .bool true) rfl (by kernel_rfl) rfl (by kernel_rfl) (r_assign rfl rfl) ?_
  simp only [Act.put, List.setIfInBounds_toArray, List.set_cons_zero, List.set_cons_succ]
  refine dc (by kernel_rfl) ?_
  have HMT := Lib.hid (show MapAt w4.drew ms idK intV _ from HM4.out.drew)
  have HRT := HR2
  have HFT := Lib.hid HF4.out.drew
  have HB13T := Lib.hid (show w4.drew.heap[b13]? = _ from HB134.out)
  have HBXT := Lib.hid (show w4.drew.heap[w.heap.size]? = _ from HBX4.out)
  clear hS
  generalize w4.drew = w5 at *

  have hT0 : aget_ok (aput r.id 1 lst) (upd st r.id 1) := HRT.out
  obtain ⟨o8, hup8, hmap8⟩ := run_update (P := Try.prog) (t := 99) HMT.out keyId Try.underlying99 r.id (2 : Int)
  have hF8 : Fr (· = ms) w5 (w5.putObj ms o8) := (Fr.refl _ _).putObj _ _ (fun _ => rfl)
  obtain ⟨o9, hup9, hmap9⟩ := run_update (P := Try.prog) (t := 99) hmap8 keyId Try.underlying99 r.id (3 : Int)
  have hF9 : Fr (· = ms) w5 ((w5.putObj ms o8).putObj ms o9) := hF8.putObj _ _ (fun _ => rfl)
  have x13 := cellOf HB13T.out 0 rfl
  have y13 := hF8.cell x13 (fun e => HN13.out e)
  have HIDT := Lib.hid (idC_box HBXT.out)
  have HIDT8 := Lib.hid (idC_box (hF8.keep HBXT.out (fun e => HNBX.out e)))
  have HUP8 := Lib.hid hup8
  have HUP9 := Lib.hid hup9
  have HFN8 := Lib.hid (And.intro hmap8 (And.intro (hT0.put r.id 2) (HFT.out.trans hF8 (fun _ _ e => e))))
  have HFN9 := Lib.hid (And.intro hmap9 (And.intro ((hT0.put r.id 2).put r.id 3) (HFT.out.trans hF9 (fun _ _ e => e))))
  clear hT0 hup8 hmap8 hF8 hup9 hmap9 hF9

  go_wp2_with (first
    | (guard_target =~ wpList _ _ _ (⟨some 60, Op.load 31 _, _, _, _, _⟩ :: _) _ _; refine wl rfl (r_load (b := w.heap.size) (i := 0) rfl rfl HIDT.out Try.underlying31 rfl (by rw [sz31, idC_length])) ?_)
    | (guard_target =~ wpList _ _ _ (⟨some 64, Op.load 31 _, _, _, _, _⟩ :: _) _ _; refine wl rfl (r_load (b := w.heap.size) (i := 0) rfl rfl HIDT8.out Try.underlying31 rfl (by rw [sz31, idC_length])) ?_)
    | (guard_target =~ wpList _ _ _ (⟨_, Op.mapUpdate _ _ _ (.const (.int .i64 2)), _, _, _, _⟩ :: _) _ _; refine wu rfl (r_mapUpdate rfl rfl rfl rfl HUP8.out) ?_)
    | (guard_target =~ wpList _ _ _ (⟨_, Op.mapUpdate _ _ _ (.const (.int .i64 3)), _, _, _, _⟩ :: _) _ _; refine wu rfl (r_mapUpdate rfl rfl rfl rfl HUP9.out) ?_)
    | fail)
  go_ret
  exact IsTo.mk rows lost now n r st HZ.out true _ HQ.out HFN9.out.1 HFN9.out.2.1 HFN9.out.2.2

set_option maxRecDepth 100000 in
set_option maxHeartbeats 1000000 in
theorem is_B2f (b13 b7 b14 b8 b5 ms mr ml : Nat) (rows : Id → Option Row) (lost : Id → Bool) (now : Int) (lr : List (Id × Row)) (n : Nat) (r : Row) (st : St) (lst : List (Id × Int)) (w : World)
    (hE : Env w b13 b7 b14 b8 b5 ms mr ml rows lost now lr) (hr : rows r.id = some r) (hm : MapAt w ms idK intV lst) (ho : aget_ok lst st) (hz : st r.id = 0) (hne : r.refs.length ≠ 0) (hlast : ∀ q, r.refs.getLast? = some q → rows q = none ∧ lost q = false) :
    Calls Try.prog 107 #[rowV r, .pointer (some ⟨b13, 0, none⟩), .pointer (some ⟨b7, 0, none⟩), .pointer (some ⟨b14, 0, none⟩), .pointer (some ⟨b8, 0, none⟩), .pointer (some ⟨b5, 0, none⟩)] w fun e w' => IsTo w w' ms e (isF rows lost now (n + 1) r st) := by
  obtain ⟨es0, cl0, hes, -⟩ := hm.ex
  have HNM : ∀ {b : Nat} {cs : Array Value} {t : TypeId}, w.heap[b]? = some (.cells cs t) → b ≠ ms := fun hb e => by rw [e, hes] at hb; cases hb
  have HN13 := Lib.hid (HNM hE.c13)
  have HNBX := Lib.hid (show w.heap.size ≠ ms from fun e => by have := hm.lt; omega)
  have hb1 := heap_alloc_new w (.cells (rowC r).toArray 36)
  have hF1 : Fr (· = ms) w (w.alloc (.cells (rowC r).toArray 36)) := (Fr.refl _ w).alloc _
  have hF1n : Fr Non w (w.alloc (.cells (rowC r).toArray 36)) := (Fr.refl _ w).alloc _
  obtain ⟨w1, hw1⟩ : ∃ w1, w.alloc (.cells (rowC r).toArray 36) = w1 := ⟨_, rfl⟩
  rw [hw1] at hb1 hF1 hF1n
  have hm1 := hm.fr hF1n (fun h => h)
  have x13 : w1.cell? ⟨b13, 0, none⟩ = some (.map (some ms)) := cellOf (hF1n.keep hE.c13 (fun h => h)) 0 rfl
  have HID1 := Lib.hid (idC_box hb1)
  have hlk := run_lookup (P := Try.prog) (t := 99) hm1 keyId Try.underlying99 (zero3 w1) r.id false
  have hlk2 : (Instr.lookup 99 (.map (some ms)) (idK r.id) false).run Try.prog w1 = .ok (.int .i64 (st r.id)) w1 := by
    rw [hlk, ← ho r.id]
    cases aget r.id lst <;> rfl

  obtain ⟨o1, hup1, hmap1⟩ := run_update (P := Try.prog) (t := 99) hm1 keyId Try.underlying99 r.id (1 : Int)
  have hF2 : Fr (· = ms) w (w1.putObj ms o1) := hF1.putObj _ _ (fun _ => rfl)
  have hF12 : Fr (· = ms) w1 (w1.putObj ms o1) := (Fr.refl _ _).putObj _ _ (fun _ => rfl)
  obtain ⟨w2, hw2⟩ : ∃ w2, w1.putObj ms o1 = w2 := ⟨_, rfl⟩
  rw [hw2] at hup1 hmap1 hF2 hF12
  have HB13 := Lib.hid (hF2.keep hE.c13 (HNM hE.c13))
  have x132 : w2.cell? ⟨b13, 0, none⟩ = some (.map (some ms)) := cellOf HB13.out 0 rfl
  have HBX := Lib.hid (hF12.keep hb1 (fun e => HNBX.out e))
  have xrefs : w2.cell? ⟨w.heap.size, 50, none⟩ = some (.slice r.ra r.refs.length r.rc) := cellOf HBX.out 50 (by rw [List.getElem?_toArray]; exact rowC_refs r)
  have HUP1 := Lib.hid hup1
  have HM2 := Lib.hid hmap1
  have HR2 := Lib.hid (ho.put r.id 1)
  have HF2 := Lib.hid hF2

  have HZ := Lib.hid hz
  have HLK := Lib.hid (show (Instr.lookup 99 (.map (some ms)) (idK r.id) false).run Try.prog w1 = .ok (.int .i64 0) w1 from hz ▸ hlk2)
  clear hlk hlk2

  obtain ⟨q, hq⟩ : ∃ q, r.refs[r.refs.length - 1]? = some q := ⟨_, List.getElem?_eq_getElem (by omega)⟩
  have hql : r.refs.getLast? = some q := by rw [List.getLast?_eq_getElem?]; exact hq
  obtain ⟨hrq, hlost⟩ := hlast q hql
  obtain ⟨b, o, hra, hrng⟩ := (hE.fr hm hF2).good r.id r hr |>.2.2.get hq
  have hlen20 := (hE.good r.id r hr).2.1.2.2
  have hlen1 : (1 : Int) ≤ (r.refs.length : Int) := by omega
  have hne0 : ((r.refs.length : Int) == 0) = false := beq_eq_false_iff_ne.2 (by omega)
  have hlen2 : (r.refs.length : Int) ≤ 20 := by omega
  have hix : ((r.refs.length : Int) - 1).toNat = r.refs.length - 1 := by omega
  rw [hra] at xrefs
  have HRNG := Lib.hid hrng
  have hF23 : Fr Non w2 (w2.alloc (.cells (idC q).toArray 31)) := (Fr.refl _ w2).alloc _
  have hb9 := heap_alloc_new w2 (.cells (idC q).toArray 31)
  obtain ⟨w3, hw3⟩ : ∃ w3, w2.alloc (.cells (idC q).toArray 31) = w3 := ⟨_, rfl⟩
  rw [hw3] at hF23 hb9
  have hE3 := (hE.fr hm hF2).fr (ms := ms) HM2.out (hF23.mono (fun _ _ h => h.elim))
  have x7 : w3.cell? ⟨b7, 0, none⟩ = some (.map (some mr)) := cellOf hE3.c7 0 rfl
  have HID9 := Lib.hid (show w3.rangeAt w2.heap.size 0 (idC q) from rangeAt_of hb9 0 _ (by simp))
  have hlkr := run_lookup (P := Try.prog) (t := 152) hE3.hrows.1 keyId Try.underlying152 (zero36 w3) q true
  rw [hE3.hrows.2 q] at hlkr
  have hp : r.refs.length - 1 < r.refs.length := by omega
  rw [hrq] at hlkr
  have HLKR := Lib.hid hlkr

  have hF34 : Fr Non w3 (w3.alloc (.cells (rowC zeroRow).toArray 36)) := (Fr.refl _ w3).alloc _
  have hb10 := heap_alloc_new w3 (.cells (rowC zeroRow).toArray 36)
  obtain ⟨w4, hw4⟩ : ∃ w4, w3.alloc (.cells (rowC zeroRow).toArray 36) = w4 := ⟨_, rfl⟩
  rw [hw4] at hF34 hb10
  have hF24 : Fr Non w2 w4 := hF23.trans hF34 (fun _ _ h => h)
  have hE4 := hE3.fr (ms := ms) (HM2.out.fr hF23 (fun h => h)) (hF34.mono (fun _ _ h => h.elim))
  have HM4 := Lib.hid (HM2.out.fr hF24 (fun h => h))
  have HF4 := Lib.hid (HF2.out.trans (hF24.mono (T := (· = ms)) (fun _ _ h => h.elim)) (fun _ _ e => e))
  have HB134 := Lib.hid (hF24.keep HB13.out (fun h => h))
  have HBX4 := Lib.hid (hF24.keep HBX.out (fun h => h))
  have HD0 := Lib.hid ((hE4.good r.id r hr).2.1.1)
  have HD1 := Lib.hid ((hE4.good r.id r hr).2.1.2.1)

  have HQ := Lib.hid (show (match r.refs.getLast? with
          | none => (true, upd st r.id 1)
          | some q => match rows q with
            | some rq => isF rows lost now n rq (upd st r.id 1)
            | none => (lost q || decide (r.date + 2880 ≤ now), upd st r.id 1)) = (decide (r.date + 2880 ≤ now), upd st r.id 1) from by rw [hql]; simp only [hrq]; rw [hlost]; simp)

  have HS : Hid (∀ W, Fr Non w4 W → (fun W : World => W.cell? ⟨b8, 0, none⟩ = some (.map (some ml)) ∧ W.rangeAt w2.heap.size 0 (idC q) ∧ (Instr.lookup 96 (.map (some ml)) (idK q) false).run Try.prog W = .ok (.bool (lost q)) W ∧ W.cell? ⟨b5, 0, none⟩ = some (.int .i64 now) ∧ W.rangeAt w.heap.size 0 (rowC r)) W) := by
    intro W hW
    obtain ⟨ll, hl1, hl2⟩ := hE4.hlost
    have hlk9 := run_lookup (P := Try.prog) (t := 96) (hl1.fr hW (fun h => h)) keyId Try.underlying96 (zero4 W) q false
    refine ⟨cellOf (hW.keep hE4.c8 (fun h => h)) 0 rfl, rangeAt_of (hW.keep (hF34.keep hb9 (fun h => h)) (fun h => h)) 0 _ (by simp), ?_, cellOf (hW.keep hE4.c5 (fun h => h)) 0 rfl, rangeAt_of (hW.keep HBX4.out (fun h => h)) 0 _ (by simp)⟩
    rw [hlk9, ← hl2 q]
    cases aget q ll <;> rfl
  rw [hlost] at HS
  clear hlkr hm1 hF1n hb1 hm ho hE hr HNM hes hF1 hF2 hF12 hup1 hmap1 hrng hq hql hrq hE3 hE4 hF23 hF34 hF24 hb9 hb10 hz hra

  go_enter Try.func107, Try.ntmps107
  go_wp2_with (first
    | (guard_target =~ wpList _ _ _ (⟨_, Op.box 36 _, _, _, _, _⟩ :: _) _ _; refine wl rfl (r_boxA (cs := (rowC r).toArray) rfl rfl) ?_; rw [hw1])
    | (guard_target =~ wpList _ _ _ (⟨some 14, Op.load 31 _, _, _, _, _⟩ :: _) _ _; refine wl rfl (r_load (b := w.heap.size) (i := 0) rfl rfl HID1.out Try.underlying31 rfl (by rw [sz31, idC_length])) ?_)
    | (guard_target =~ wpList _ _ _ (⟨some 19, Op.load 31 _, _, _, _, _⟩ :: _) _ _; refine wl rfl (r_load (b := w.heap.size) (i := 0) rfl rfl HID1.out Try.underlying31 rfl (by rw [sz31, idC_length])) ?_)
    | (guard_target =~ wpList _ _ _ (⟨some 24, Op.load 31 _, _, _, _, _⟩ :: _) _ _; refine wl rfl (r_load (b := w.heap.size) (i := 0) rfl rfl HID1.out Try.underlying31 rfl (by rw [sz31, idC_length])) ?_)
    | (guard_target =~ wpList _ _ _ (⟨_, Op.lookup 99 _ _ _, _, _, _, _⟩ :: _) _ _; refine wl rfl (r_lookup rfl rfl rfl HLK.out) ?_)
    | (guard_target =~ wpList _ _ _ (⟨_, Op.mapUpdate _ _ _ (.const (.int .i64 1)), _, _, _, _⟩ :: _) _ _; refine wu rfl (r_mapUpdate rfl rfl rfl rfl HUP1.out) ?_)
    | (guard_target =~ wpList _ _ _ (⟨some 38, Op.load 31 _, _, _, _, _⟩ :: _) _ _; refine wl rfl (r_load (b := b) (i := o + (r.refs.length - 1) * 32) rfl rfl HRNG.out Try.underlying31 rfl (by rw [sz31, idC_length])) ?_)
    | (guard_target =~ wpList _ _ _ (⟨_, Op.alloc 31, _, _, _, _⟩ :: _) _ _; refine wl rfl (r_allocA rfl (zero31 _)) ?_)
    | (guard_target =~ wpList _ _ _ (⟨_, Op.store 31 _ _, _, _, _, _⟩ :: _) _ _; refine wu rfl (r_store_new (c' := (idC q).toArray) rfl rfl rfl (by rw [sz31]; simp [idC_length]) (by simp [idC_length]) (all_oneCell_toArray (idC_one q))) ?_; rw [hw3])
    | (guard_target =~ wpList _ _ _ (⟨some 41, Op.load 31 _, _, _, _, _⟩ :: _) _ _; refine wl rfl (r_load (b := w2.heap.size) (i := 0) rfl rfl HID9.out Try.underlying31 rfl (by rw [sz31, idC_length])) ?_)
    | (guard_target =~ wpList _ _ _ (⟨_, Op.lookup 152 _ _ _, _, _, _, _⟩ :: _) _ _; refine wl rfl (r_lookup rfl rfl rfl HLKR.out) ?_)
    | (guard_target =~ wpList _ _ _ (⟨_, Op.alloc 36, _, _, _, _⟩ :: _) _ _; refine wl rfl (r_allocA rfl (zero36 _)) ?_)
    | (guard_target =~ wpList _ _ _ (⟨_, Op.store 36 _ _, _, _, _, _⟩ :: _) _ _; refine wu rfl (r_store_new (c' := (rowC zeroRow).toArray) rfl rfl rfl (by rw [sz36]; simp [rowC_length]) (by simp [rowC_length]) (all_oneCell_toArray (rowC_one zeroRow))) ?_; rw [hw4])
    | fail)
  refine rc (fun W : World => W.cell? ⟨b8, 0, none⟩ = some (.map (some ml)) ∧ W.rangeAt w2.heap.size 0 (idC q) ∧ (Instr.lookup 96 (.map (some ml)) (idK q) false).run Try.prog W = .ok (.bool false) W ∧ W.cell? ⟨b5, 0, none⟩ = some (.int .i64 now) ∧ W.rangeAt w.heap.size 0 (rowC r)) 9 (by kernel_rfl) ?_
  have hS : (fun W : World => W.cell? ⟨b8, 0, none⟩ = some (.map (some ml)) ∧ W.rangeAt w2.heap.size 0 (idC q) ∧ (Instr.lookup 96 (.map (some ml)) (idK q) false).run Try.prog W = .ok (.bool false) W ∧ W.cell? ⟨b5, 0, none⟩ = some (.int .i64 now) ∧ W.rangeAt w.heap.size 0 (rowC r)) w4.drew := HS.out _ ((Fr.refl Non w4).drew)
  refine tc (i := 0) (v := .map (some ml)) rfl 8 (by kernel_rfl) (fun _ _ _ h => h) rfl (fun W0 hw => by obtain ⟨hw0, hw1, hw2, hw3, hw4⟩ := hw; unfold RunV; go_simp) hS ?_
  simp only [Act.put, List.setIfInBounds_toArray, List.set_cons_zero, List.set_cons_succ]
  refine tc (i := 1) (v := .agg (idC q).toArray) rfl 8 (by kernel_rfl) (fun _ _ _ h => h) rfl (fun W0 hw => r_load (b := w2.heap.size) (i := 0) rfl rfl hw.2.1 Try.underlying31 rfl (by rw [sz31, idC_length])) hS ?_
  simp only [Act.put, List.setIfInBounds_toArray, List.set_cons_zero, List.set_cons_succ]
  refine tc (i := 2) (v := .bool false) rfl 8 (by kernel_rfl) (fun _ _ _ h => h) rfl (fun W0 hw => r_lookup rfl rfl rfl hw.2.2.1) hS ?_
  simp only [Act.put, List.setIfInBounds_toArray, List.set_cons_zero, List.set_cons_succ]
  refine tp (i := 3) (v := .bool false) rfl (by kernel_rfl) (fun _ _ _ h => h) rfl (fun W0 => r_move rfl rfl) (.inr hS) ?_
  simp only [Act.put, List.setIfInBounds_toArray, List.set_cons_zero, List.set_cons_succ]
  refine tcg (i := 4) (v := .int .i64 now) rfl 8 (by kernel_rfl) (fun _ _ _ h => h) rfl (fun W0 hw => by obtain ⟨hw0, hw1, hw2, hw3, hw4⟩ := hw; unfold RunV; go_simp) hS ?_
  simp only [Act.put, List.setIfInBounds_toArray, List.set_cons_zero, List.set_cons_succ]
  refine tcg (i := 5) (v := .agg (rowC r).toArray) rfl 8 (by kernel_rfl) (fun _ _ _ h => h) rfl (fun W0 hw => r_load (b := w.heap.size) (i := 0) rfl rfl hw.2.2.2.2 Try.underlying36 rfl (by rw [sz36, rowC_length])) hS ?_
  simp only [Act.put, List.setIfInBounds_toArray, List.set_cons_zero, List.set_cons_succ]
  refine og1 (i := 6) rfl (by kernel_rfl) rfl ?_
  unfold Oper.wp
  go_simp
  refine (Until_c w4.drew r HD0.out HD1.out).mono ?_
  rintro e w5 ⟨rfl, hF5⟩
  have hF45 : Fr Non w4 w5 := ((Fr.refl Non w4).drew).trans hF5 (fun _ _ h => h)
  refine ⟨HS.out w5 hF45, ?_⟩
  have hS := HS.out w5 hF45
  refine tpg (i := 7) (v := .bool (decide (r.date + 2880 ≤ now))) rfl (by kernel_rfl) (fun _ _ _ h => h) rfl (fun W0 => by unfold RunV; go_simp) (.inr hS) ?_
  simp only [Act.put, List.setIfInBounds_toArray, List.set_cons_zero, List.set_cons_succ]
  refine tp (i := 8) (v := .bool (decide (r.date + 2880 ≤ now))) rfl (by kernel_rfl) (fun _ _ _ h => h) rfl (fun W0 => r_pick rfl rfl rfl) (.inr hS) ?_
  simp only [Act.put, List.setIfInBounds_toArray, List.set_cons_zero, List.set_cons_succ]
  refine oc2 (i := 9) (v := .bool (decide (r.date + 2880 ≤ now))) rfl (by kernel_rfl) rfl (by kernel_rfl) (r_assign rfl rfl) ?_
  simp only [Act.put, List.setIfInBounds_toArray, List.set_cons_zero, List.set_cons_succ]
  refine dc (by kernel_rfl) ?_
  have hF24' := hF45.mono (T := (· = ms)) (fun _ _ h => h.elim)
  have HMT := Lib.hid (HM4.out.fr hF45 (fun h => h))
  have HRT := HR2
  have HFT := Lib.hid (HF4.out.trans hF24' (fun _ _ e => e))
  have HB13T := Lib.hid (hF45.keep HB134.out (fun h => h))
  have HBXT := Lib.hid (hF45.keep HBX4.out (fun h => h))
  clear hS hF45 hF5 hF24'

  have hT0 : aget_ok (aput r.id 1 lst) (upd st r.id 1) := HRT.out
  obtain ⟨o8, hup8, hmap8⟩ := run_update (P := Try.prog) (t := 99) HMT.out keyId Try.underlying99 r.id (2 : Int)
  have hF8 : Fr (· = ms) w5 (w5.putObj ms o8) := (Fr.refl _ _).putObj _ _ (fun _ => rfl)
  obtain ⟨o9, hup9, hmap9⟩ := run_update (P := Try.prog) (t := 99) hmap8 keyId Try.underlying99 r.id (3 : Int)
  have hF9 : Fr (· = ms) w5 ((w5.putObj ms o8).putObj ms o9) := hF8.putObj _ _ (fun _ => rfl)
  have x13 := cellOf HB13T.out 0 rfl
  have y13 := hF8.cell x13 (fun e => HN13.out e)
  have HIDT := Lib.hid (idC_box HBXT.out)
  have HIDT8 := Lib.hid (idC_box (hF8.keep HBXT.out (fun e => HNBX.out e)))
  have HUP8 := Lib.hid hup8
  have HUP9 := Lib.hid hup9
  have HFN8 := Lib.hid (And.intro hmap8 (And.intro (hT0.put r.id 2) (HFT.out.trans hF8 (fun _ _ e => e))))
  have HFN9 := Lib.hid (And.intro hmap9 (And.intro ((hT0.put r.id 2).put r.id 3) (HFT.out.trans hF9 (fun _ _ e => e))))
  clear hT0 hup8 hmap8 hF8 hup9 hmap9 hF9

  cases hy : decide (r.date + 2880 ≤ now)
  · replace HQ := Lib.hid (HQ.out.trans (congrArg (fun b => (b, upd st r.id 1)) hy))
    clear hy
    go_wp2_with (first
      | (guard_target =~ wpList _ _ _ (⟨some 60, Op.load 31 _, _, _, _, _⟩ :: _) _ _; refine wl rfl (r_load (b := w.heap.size) (i := 0) rfl rfl HIDT.out Try.underlying31 rfl (by rw [sz31, idC_length])) ?_)
      | (guard_target =~ wpList _ _ _ (⟨some 64, Op.load 31 _, _, _, _, _⟩ :: _) _ _; refine wl rfl (r_load (b := w.heap.size) (i := 0) rfl rfl HIDT8.out Try.underlying31 rfl (by rw [sz31, idC_length])) ?_)
      | (guard_target =~ wpList _ _ _ (⟨_, Op.mapUpdate _ _ _ (.const (.int .i64 2)), _, _, _, _⟩ :: _) _ _; refine wu rfl (r_mapUpdate rfl rfl rfl rfl HUP8.out) ?_)
      | (guard_target =~ wpList _ _ _ (⟨_, Op.mapUpdate _ _ _ (.const (.int .i64 3)), _, _, _, _⟩ :: _) _ _; refine wu rfl (r_mapUpdate rfl rfl rfl rfl HUP9.out) ?_)
      | fail)
    go_ret
    exact IsTo.mk rows lost now n r st HZ.out false _ HQ.out HFN8.out.1 HFN8.out.2.1 HFN8.out.2.2
  · replace HQ := Lib.hid (HQ.out.trans (congrArg (fun b => (b, upd st r.id 1)) hy))
    clear hy
    go_wp2_with (first
      | (guard_target =~ wpList _ _ _ (⟨some 60, Op.load 31 _, _, _, _, _⟩ :: _) _ _; refine wl rfl (r_load (b := w.heap.size) (i := 0) rfl rfl HIDT.out Try.underlying31 rfl (by rw [sz31, idC_length])) ?_)
      | (guard_target =~ wpList _ _ _ (⟨some 64, Op.load 31 _, _, _, _, _⟩ :: _) _ _; refine wl rfl (r_load (b := w.heap.size) (i := 0) rfl rfl HIDT8.out Try.underlying31 rfl (by rw [sz31, idC_length])) ?_)
      | (guard_target =~ wpList _ _ _ (⟨_, Op.mapUpdate _ _ _ (.const (.int .i64 2)), _, _, _, _⟩ :: _) _ _; refine wu rfl (r_mapUpdate rfl rfl rfl rfl HUP8.out) ?_)
      | (guard_target =~ wpList _ _ _ (⟨_, Op.mapUpdate _ _ _ (.const (.int .i64 3)), _, _, _, _⟩ :: _) _ _; refine wu rfl (r_mapUpdate rfl rfl rfl rfl HUP9.out) ?_)
      | fail)
    go_ret
    exact IsTo.mk rows lost now n r st HZ.out true _ HQ.out HFN9.out.1 HFN9.out.2.1 HFN9.out.2.2

set_option maxRecDepth 100000 in
set_option maxHeartbeats 1000000 in
theorem is_B2a (b13 b7 b14 b8 b5 ms mr ml : Nat) (rows : Id → Option Row) (lost : Id → Bool) (now : Int) (lr : List (Id × Row)) (n : Nat) (r : Row) (st : St) (lst : List (Id × Int)) (w : World)
    (hE : Env w b13 b7 b14 b8 b5 ms mr ml rows lost now lr) (hr : rows r.id = some r) (hm : MapAt w ms idK intV lst) (ho : aget_ok lst st) (rq : Row) (hz : st r.id = 0) (hne : r.refs.length ≠ 0) (hlast : ∀ q, r.refs.getLast? = some q → rows q = some rq)
    (hcall : ∀ (W : World) (l : List (Id × Int)), Env W b13 b7 b14 b8 b5 ms mr ml rows lost now lr → MapAt W ms idK intV l → aget_ok l (upd st r.id 1) → Calls Try.prog 107 #[rowV rq, .pointer (some ⟨b13, 0, none⟩), .pointer (some ⟨b7, 0, none⟩), .pointer (some ⟨b14, 0, none⟩), .pointer (some ⟨b8, 0, none⟩), .pointer (some ⟨b5, 0, none⟩)] W fun e W' => IsTo W W' ms e (isF rows lost now n rq (upd st r.id 1))) :
    Calls Try.prog 107 #[rowV r, .pointer (some ⟨b13, 0, none⟩), .pointer (some ⟨b7, 0, none⟩), .pointer (some ⟨b14, 0, none⟩), .pointer (some ⟨b8, 0, none⟩), .pointer (some ⟨b5, 0, none⟩)] w fun e w' => IsTo w w' ms e (isF rows lost now (n + 1) r st) := by
  obtain ⟨es0, cl0, hes, -⟩ := hm.ex
  have HNM : ∀ {b : Nat} {cs : Array Value} {t : TypeId}, w.heap[b]? = some (.cells cs t) → b ≠ ms := fun hb e => by rw [e, hes] at hb; cases hb
  have HN13 := Lib.hid (HNM hE.c13)
  have HNBX := Lib.hid (show w.heap.size ≠ ms from fun e => by have := hm.lt; omega)
  have hb1 := heap_alloc_new w (.cells (rowC r).toArray 36)
  have hF1 : Fr (· = ms) w (w.alloc (.cells (rowC r).toArray 36)) := (Fr.refl _ w).alloc _
  have hF1n : Fr Non w (w.alloc (.cells (rowC r).toArray 36)) := (Fr.refl _ w).alloc _
  obtain ⟨w1, hw1⟩ : ∃ w1, w.alloc (.cells (rowC r).toArray 36) = w1 := ⟨_, rfl⟩
  rw [hw1] at hb1 hF1 hF1n
  have hm1 := hm.fr hF1n (fun h => h)
  have x13 : w1.cell? ⟨b13, 0, none⟩ = some (.map (some ms)) := cellOf (hF1n.keep hE.c13 (fun h => h)) 0 rfl
  have HID1 := Lib.hid (idC_box hb1)
  have hlk := run_lookup (P := Try.prog) (t := 99) hm1 keyId Try.underlying99 (zero3 w1) r.id false
  have hlk2 : (Instr.lookup 99 (.map (some ms)) (idK r.id) false).run Try.prog w1 = .ok (.int .i64 (st r.id)) w1 := by
    rw [hlk, ← ho r.id]
    cases aget r.id lst <;> rfl

  obtain ⟨o1, hup1, hmap1⟩ := run_update (P := Try.prog) (t := 99) hm1 keyId Try.underlying99 r.id (1 : Int)
  have hF2 : Fr (· = ms) w (w1.putObj ms o1) := hF1.putObj _ _ (fun _ => rfl)
  have hF12 : Fr (· = ms) w1 (w1.putObj ms o1) := (Fr.refl _ _).putObj _ _ (fun _ => rfl)
  obtain ⟨w2, hw2⟩ : ∃ w2, w1.putObj ms o1 = w2 := ⟨_, rfl⟩
  rw [hw2] at hup1 hmap1 hF2 hF12
  have HB13 := Lib.hid (hF2.keep hE.c13 (HNM hE.c13))
  have x132 : w2.cell? ⟨b13, 0, none⟩ = some (.map (some ms)) := cellOf HB13.out 0 rfl
  have HBX := Lib.hid (hF12.keep hb1 (fun e => HNBX.out e))
  have xrefs : w2.cell? ⟨w.heap.size, 50, none⟩ = some (.slice r.ra r.refs.length r.rc) := cellOf HBX.out 50 (by rw [List.getElem?_toArray]; exact rowC_refs r)
  have HUP1 := Lib.hid hup1
  have HM2 := Lib.hid hmap1
  have HR2 := Lib.hid (ho.put r.id 1)
  have HF2 := Lib.hid hF2

  have HZ := Lib.hid hz
  have HLK := Lib.hid (show (Instr.lookup 99 (.map (some ms)) (idK r.id) false).run Try.prog w1 = .ok (.int .i64 0) w1 from hz ▸ hlk2)
  clear hlk hlk2

  obtain ⟨q, hq⟩ : ∃ q, r.refs[r.refs.length - 1]? = some q := ⟨_, List.getElem?_eq_getElem (by omega)⟩
  have hql : r.refs.getLast? = some q := by rw [List.getLast?_eq_getElem?]; exact hq
  have hrq := hlast q hql
  obtain ⟨b, o, hra, hrng⟩ := (hE.fr hm hF2).good r.id r hr |>.2.2.get hq
  have hlen20 := (hE.good r.id r hr).2.1.2.2
  have hlen1 : (1 : Int) ≤ (r.refs.length : Int) := by omega
  have hne0 : ((r.refs.length : Int) == 0) = false := beq_eq_false_iff_ne.2 (by omega)
  have hlen2 : (r.refs.length : Int) ≤ 20 := by omega
  have hix : ((r.refs.length : Int) - 1).toNat = r.refs.length - 1 := by omega
  rw [hra] at xrefs
  have HRNG := Lib.hid hrng
  have hF23 : Fr Non w2 (w2.alloc (.cells (idC q).toArray 31)) := (Fr.refl _ w2).alloc _
  have hb9 := heap_alloc_new w2 (.cells (idC q).toArray 31)
  obtain ⟨w3, hw3⟩ : ∃ w3, w2.alloc (.cells (idC q).toArray 31) = w3 := ⟨_, rfl⟩
  rw [hw3] at hF23 hb9
  have hE3 := (hE.fr hm hF2).fr (ms := ms) HM2.out (hF23.mono (fun _ _ h => h.elim))
  have x7 : w3.cell? ⟨b7, 0, none⟩ = some (.map (some mr)) := cellOf hE3.c7 0 rfl
  have HID9 := Lib.hid (show w3.rangeAt w2.heap.size 0 (idC q) from rangeAt_of hb9 0 _ (by simp))
  have hlkr := run_lookup (P := Try.prog) (t := 152) hE3.hrows.1 keyId Try.underlying152 (zero36 w3) q true
  rw [hE3.hrows.2 q] at hlkr
  have hp : r.refs.length - 1 < r.refs.length := by omega
  rw [hrq] at hlkr
  have HLKR := Lib.hid hlkr

  have hF34 : Fr Non w3 (w3.alloc (.cells (rowC rq).toArray 36)) := (Fr.refl _ w3).alloc _
  have hb10 := heap_alloc_new w3 (.cells (rowC rq).toArray 36)
  obtain ⟨w4, hw4⟩ : ∃ w4, w3.alloc (.cells (rowC rq).toArray 36) = w4 := ⟨_, rfl⟩
  rw [hw4] at hF34 hb10
  have hF24 : Fr Non w2 w4 := hF23.trans hF34 (fun _ _ h => h)
  have hE4 := hE3.fr (ms := ms) (HM2.out.fr hF23 (fun h => h)) (hF34.mono (fun _ _ h => h.elim))
  have HM4 := Lib.hid (HM2.out.fr hF24 (fun h => h))
  have HF4 := Lib.hid (HF2.out.trans (hF24.mono (T := (· = ms)) (fun _ _ h => h.elim)) (fun _ _ e => e))
  have HB134 := Lib.hid (hF24.keep HB13.out (fun h => h))
  have HBX4 := Lib.hid (hF24.keep HBX.out (fun h => h))
  have x14 := cellOf hE4.c14 0 rfl
  have HRQ := Lib.hid (rangeAt_of hb10 0 (rowC rq) (by simp))
  have HCALL := Lib.hid (hcall w4 _ hE4 HM4.out HR2.out)
  have HQL := Lib.hid (And.intro hql hrq)
  clear hlkr hm1 hF1n hb1 hm ho hE hr HNM hes hF1 hF2 hF12 hup1 hmap1 hrng hq hql hrq hE3 hE4 hF23 hF34 hF24 hb9 hb10 hz hra hcall hlast

  go_enter Try.func107, Try.ntmps107
  go_wp2_with (first
    | (guard_target =~ wpList _ _ _ (⟨_, Op.box 36 _, _, _, _, _⟩ :: _) _ _; refine wl rfl (r_boxA (cs := (rowC r).toArray) rfl rfl) ?_; rw [hw1])
    | (guard_target =~ wpList _ _ _ (⟨some 14, Op.load 31 _, _, _, _, _⟩ :: _) _ _; refine wl rfl (r_load (b := w.heap.size) (i := 0) rfl rfl HID1.out Try.underlying31 rfl (by rw [sz31, idC_length])) ?_)
    | (guard_target =~ wpList _ _ _ (⟨some 19, Op.load 31 _, _, _, _, _⟩ :: _) _ _; refine wl rfl (r_load (b := w.heap.size) (i := 0) rfl rfl HID1.out Try.underlying31 rfl (by rw [sz31, idC_length])) ?_)
    | (guard_target =~ wpList _ _ _ (⟨some 24, Op.load 31 _, _, _, _, _⟩ :: _) _ _; refine wl rfl (r_load (b := w.heap.size) (i := 0) rfl rfl HID1.out Try.underlying31 rfl (by rw [sz31, idC_length])) ?_)
    | (guard_target =~ wpList _ _ _ (⟨_, Op.lookup 99 _ _ _, _, _, _, _⟩ :: _) _ _; refine wl rfl (r_lookup rfl rfl rfl HLK.out) ?_)
    | (guard_target =~ wpList _ _ _ (⟨_, Op.mapUpdate _ _ _ (.const (.int .i64 1)), _, _, _, _⟩ :: _) _ _; refine wu rfl (r_mapUpdate rfl rfl rfl rfl HUP1.out) ?_)
    | (guard_target =~ wpList _ _ _ (⟨some 38, Op.load 31 _, _, _, _, _⟩ :: _) _ _; refine wl rfl (r_load (b := b) (i := o + (r.refs.length - 1) * 32) rfl rfl HRNG.out Try.underlying31 rfl (by rw [sz31, idC_length])) ?_)
    | (guard_target =~ wpList _ _ _ (⟨_, Op.alloc 31, _, _, _, _⟩ :: _) _ _; refine wl rfl (r_allocA rfl (zero31 _)) ?_)
    | (guard_target =~ wpList _ _ _ (⟨_, Op.store 31 _ _, _, _, _, _⟩ :: _) _ _; refine wu rfl (r_store_new (c' := (idC q).toArray) rfl rfl rfl (by rw [sz31]; simp [idC_length]) (by simp [idC_length]) (all_oneCell_toArray (idC_one q))) ?_; rw [hw3])
    | (guard_target =~ wpList _ _ _ (⟨some 41, Op.load 31 _, _, _, _, _⟩ :: _) _ _; refine wl rfl (r_load (b := w2.heap.size) (i := 0) rfl rfl HID9.out Try.underlying31 rfl (by rw [sz31, idC_length])) ?_)
    | (guard_target =~ wpList _ _ _ (⟨_, Op.lookup 152 _ _ _, _, _, _, _⟩ :: _) _ _; refine wl rfl (r_lookup rfl rfl rfl HLKR.out) ?_)
    | (guard_target =~ wpList _ _ _ (⟨_, Op.alloc 36, _, _, _, _⟩ :: _) _ _; refine wl rfl (r_allocA rfl (zero36 _)) ?_)
    | (guard_target =~ wpList _ _ _ (⟨_, Op.store 36 _ _, _, _, _, _⟩ :: _) _ _; refine wu rfl (r_store_new (c' := (rowC rq).toArray) rfl rfl rfl (by rw [sz36]; simp [rowC_length]) (by simp [rowC_length]) (all_oneCell_toArray (rowC_one rq))) ?_; rw [hw4])
    | (guard_target =~ wpList _ _ _ (⟨some 47, Op.load 36 _, _, _, _, _⟩ :: _) _ _; refine wl rfl (r_load (b := w3.heap.size) (i := 0) rfl rfl HRQ.out Try.underlying36 rfl (by rw [sz36, rowC_length])) ?_)
    | fail)
  refine HCALL.out.mono ?_
  rintro e w5 ⟨y, rfl, hy, l5, hm5, ho5, hF5⟩
  have HMT := Lib.hid hm5
  have HRT := Lib.hid ho5
  have HFT := Lib.hid (HF4.out.trans hF5 (fun _ _ e => e))
  have HB13T := Lib.hid (hF5.keep HB134.out HN13.out)
  have HBXT := Lib.hid (hF5.keep HBX4.out HNBX.out)
  have HQ := Lib.hid (show (match r.refs.getLast? with
          | none => (true, upd st r.id 1)
          | some q => match rows q with
            | some rq => isF rows lost now n rq (upd st r.id 1)
            | none => (lost q || decide (r.date + 2880 ≤ now), upd st r.id 1)) = (y, (isF rows lost now n rq (upd st r.id 1)).2) from by
    rw [HQL.out.1]; simp only [HQL.out.2]; exact Prod.ext hy.symm rfl)
  clear hm5 ho5 hF5 hy

  have hT0 : aget_ok l5 ((isF rows lost now n rq (upd st r.id 1)).2) := HRT.out
  obtain ⟨o8, hup8, hmap8⟩ := run_update (P := Try.prog) (t := 99) HMT.out keyId Try.underlying99 r.id (2 : Int)
  have hF8 : Fr (· = ms) w5 (w5.putObj ms o8) := (Fr.refl _ _).putObj _ _ (fun _ => rfl)
  obtain ⟨o9, hup9, hmap9⟩ := run_update (P := Try.prog) (t := 99) hmap8 keyId Try.underlying99 r.id (3 : Int)
  have hF9 : Fr (· = ms) w5 ((w5.putObj ms o8).putObj ms o9) := hF8.putObj _ _ (fun _ => rfl)
  have x13 := cellOf HB13T.out 0 rfl
  have y13 := hF8.cell x13 (fun e => HN13.out e)
  have HIDT := Lib.hid (idC_box HBXT.out)
  have HIDT8 := Lib.hid (idC_box (hF8.keep HBXT.out (fun e => HNBX.out e)))
  have HUP8 := Lib.hid hup8
  have HUP9 := Lib.hid hup9
  have HFN8 := Lib.hid (And.intro hmap8 (And.intro (hT0.put r.id 2) (HFT.out.trans hF8 (fun _ _ e => e))))
  have HFN9 := Lib.hid (And.intro hmap9 (And.intro ((hT0.put r.id 2).put r.id 3) (HFT.out.trans hF9 (fun _ _ e => e))))
  clear hT0 hup8 hmap8 hF8 hup9 hmap9 hF9

  cases y
  · skip
    go_wp2_with (first
      | (guard_target =~ wpList _ _ _ (⟨some 60, Op.load 31 _, _, _, _, _⟩ :: _) _ _; refine wl rfl (r_load (b := w.heap.size) (i := 0) rfl rfl HIDT.out Try.underlying31 rfl (by rw [sz31, idC_length])) ?_)
      | (guard_target =~ wpList _ _ _ (⟨some 64, Op.load 31 _, _, _, _, _⟩ :: _) _ _; refine wl rfl (r_load (b := w.heap.size) (i := 0) rfl rfl HIDT8.out Try.underlying31 rfl (by rw [sz31, idC_length])) ?_)
      | (guard_target =~ wpList _ _ _ (⟨_, Op.mapUpdate _ _ _ (.const (.int .i64 2)), _, _, _, _⟩ :: _) _ _; refine wu rfl (r_mapUpdate rfl rfl rfl rfl HUP8.out) ?_)
      | (guard_target =~ wpList _ _ _ (⟨_, Op.mapUpdate _ _ _ (.const (.int .i64 3)), _, _, _, _⟩ :: _) _ _; refine wu rfl (r_mapUpdate rfl rfl rfl rfl HUP9.out) ?_)
      | fail)
    go_ret
    exact IsTo.mk rows lost now n r st HZ.out false _ HQ.out HFN8.out.1 HFN8.out.2.1 HFN8.out.2.2
  · skip
    go_wp2_with (first
      | (guard_target =~ wpList _ _ _ (⟨some 60, Op.load 31 _, _, _, _, _⟩ :: _) _ _; refine wl rfl (r_load (b := w.heap.size) (i := 0) rfl rfl HIDT.out Try.underlying31 rfl (by rw [sz31, idC_length])) ?_)
      | (guard_target =~ wpList _ _ _ (⟨some 64, Op.load 31 _, _, _, _, _⟩ :: _) _ _; refine wl rfl (r_load (b := w.heap.size) (i := 0) rfl rfl HIDT8.out Try.underlying31 rfl (by rw [sz31, idC_length])) ?_)
      | (guard_target =~ wpList _ _ _ (⟨_, Op.mapUpdate _ _ _ (.const (.int .i64 2)), _, _, _, _⟩ :: _) _ _; refine wu rfl (r_mapUpdate rfl rfl rfl rfl HUP8.out) ?_)
      | (guard_target =~ wpList _ _ _ (⟨_, Op.mapUpdate _ _ _ (.const (.int .i64 3)), _, _, _, _⟩ :: _) _ _; refine wu rfl (r_mapUpdate rfl rfl rfl rfl HUP9.out) ?_)
      | fail)
    go_ret
    exact IsTo.mk rows lost now n r st HZ.out true _ HQ.out HFN9.out.1 HFN9.out.2.1 HFN9.out.2.2


end Go.Proofs.Ytfemaeacmnhdlaa
