/-
  divide: the rows that are shown, and the others.
-/
import Derived.Test.YtfemaeacmnhdlaaV7
namespace Go.Proofs.Ytfemaeacmnhdlaa
open Go.RowKit

noncomputable def shB (rows : Id → Option Row) (lost : Id → Bool) (now : Int) (x : Id) : Bool := @decide (Sh rows lost now x) (Classical.propDecidable _)
theorem shB_iff {rows : Id → Option Row} {lost : Id → Bool} {now : Int} {x : Id} : shB rows lost now x = true ↔ Sh rows lost now x := by
  unfold shB; exact @decide_eq_true_iff _ (Classical.propDecidable _)
noncomputable def shL (l : List Row) (g : List Id) (now : Int) (r : Row) : Bool := shB (rowsOf l) (fun x => decide (x ∈ g)) now r.id

theorem own_typed {α : Type} {w : World} {e : TypeId} {k : Nat} {enc : α → List Value} {v : Value} {l : List α} (h : Own w e k enc v l) {b : Nat} (hb : v.ownBlock = some b) : ∃ cs, w.heap[b]? = some (.cells cs e) := by
  rcases h.2 with ⟨rfl, _⟩ | ⟨g, cap, cur, rfl, _, hg, _⟩
  · cases hb
  · cases hb; exact ⟨cur, hg⟩

theorem Env.move {w w' : World} {b13 b7 b14 b8 b5 ms mr ml : Nat} {rows : Id → Option Row} {lost : Id → Bool} {now : Int} {lr : List (Id × Row)} (h : Env w b13 b7 b14 b8 b5 ms mr ml rows lost now lr) {S : Nat → Prop} (hf : Fr S w w') (hS : ∀ b, S b → ∃ cs, w.heap[b]? = some (.cells cs 36))
    (hgood : ∀ x r, rows x = some r → AtL w' r.ra 32 idC r.refs) : Env w' b13 b7 b14 b8 b5 ms mr ml rows lost now lr := by
  have key : ∀ {b : Nat} {cs : Array Value} {t : TypeId}, w.heap[b]? = some (.cells cs t) → t ≠ 36 → ¬ S b := fun hb ht hs => by
    obtain ⟨cs', hc⟩ := hS _ hs
    rw [hb] at hc; cases hc; exact ht rfl
  have keym : ∀ {b : Nat} {es : Array MapEntry} {c : Nat}, w.heap[b]? = some (.map es c) → ¬ S b := fun hb hs => by
    obtain ⟨cs', hc⟩ := hS _ hs
    rw [hb] at hc; cases hc
  obtain ⟨ll, h1, h2⟩ := h.hlost
  obtain ⟨e1, c1, m1, _⟩ := h.hrows.1.ex
  obtain ⟨e2, c2, m2, _⟩ := h1.ex
  exact ⟨hf.keep h.c13 (key h.c13 (by decide)), hf.keep h.c7 (key h.c7 (by decide)), hf.keep h.c14 (key h.c14 (by decide)), hf.keep h.c8 (key h.c8 (by decide)), hf.keep h.c5 (key h.c5 (by decide)), ⟨h.hrows.1.fr hf (keym m1), h.hrows.2⟩, ⟨ll, h1.fr hf (keym m2), h2⟩,
    fun x r hr => ⟨(h.good x r hr).1, (h.good x r hr).2.1, hgood x r hr⟩, h.n7, h.n8⟩
theorem und_le (lr : List (Id × Row)) (st : St) : und lr st ≤ lr.length := List.length_filter_le _ _

theorem buildSlice22 (w : World) (r : Row) : (Instr.buildSlice 22 1 #[(0, .agg (rowC r).toArray)]).run Try.prog w = .ok (.slice (some ⟨w.heap.size, 0, none⟩) 1 1) (w.alloc (.cells (rowC r).toArray 36)) := by
  have := run_buildSlice_all (P := Try.prog) (w := w) (t := 22) (e := 36) (s := 83) (vs := [.agg (rowC r).toArray]) Try.underlying22 sz36 (zero36 w) (by intro v hv; rw [List.mem_singleton.1 hv]; simp [Value.cells, rowC_length]) (by simp)
  have e : catCells [.agg (rowC r).toArray] = rowC r := by simp [catCells, Value.cells]
  rw [e] at this
  exact this

def DivTo (w w' : World) (e : Ending) (l : List Row) (p : Row → Bool) : Prop := ∃ ya yc na nc, e = .returned (.tuple #[.slice ya (l.filter p).length yc, .slice na (l.filter fun r => !p r).length nc, .int .i64 0]) ∧
  Own w' 36 83 rowC (.slice ya (l.filter p).length yc) (l.filter p) ∧ Own w' 36 83 rowC (.slice na (l.filter fun r => !p r).length nc) (l.filter fun r => !p r) ∧ Fr Non w w'

theorem filter_take_succ {α : Type} {l : List α} {k : Nat} {y : α} (h : l[k]? = some y) (p : α → Bool) : (l.take (k + 1)).filter p = (l.take k).filter p ++ (if p y then [y] else []) := by
  rw [List.take_add_one, h, List.filter_append]
  cases hp : p y <;> simp [List.filter_cons, hp]

/-- A row is put behind a list of the call's own, beside another list. -/
theorem put_row {w wr : World} {yv nv : Value} {ys ns : List Row} (r : Row) (hF : Fr Non w wr) (hy : Own wr 36 83 rowC yv ys) (hn : Own wr 36 83 rowC nv ns) (hyb : ∀ b, yv.ownBlock = some b → w.heap.size ≤ b) (hne : ∀ b, yv.ownBlock = some b → nv.ownBlock ≠ some b) (hl : ys.length ≤ 4096) :
    ∃ b cap w', (Builtin.append_ #[22, 22] 22 #[yv, .slice (some ⟨wr.heap.size, 0, none⟩) 1 1]).run Try.prog (wr.alloc (.cells (rowC r).toArray 36)) = .ok (.slice (some ⟨b, 0, none⟩) (ys.length + 1) cap) w' ∧
      Own w' 36 83 rowC (.slice (some ⟨b, 0, none⟩) (ys.length + 1) cap) (ys ++ [r]) ∧ Own w' 36 83 rowC nv ns ∧ w.heap.size ≤ b ∧ nv.ownBlock ≠ some b ∧ Fr Non w w' ∧ Fr (fun k => yv.ownBlock = some k) wr w' := by
  have hF1 : Fr Non wr (wr.alloc (.cells (rowC r).toArray 36)) := (Fr.refl _ wr).alloc _
  obtain ⟨b, cap, w', h1, h2, h3, h4, h5⟩ := run_append_one elem36 (t := 22) (ty := 22) Try.underlying22 (hy.fr hF1 (fun _ _ h => h)) (g := wr.heap.size) (x := r) (heap_alloc_new wr _) (by unfold maxLen; omega) (by omega)
  have hF2 : Fr (fun k => yv.ownBlock = some k) (wr.alloc (.cells (rowC r).toArray 36)) w' := (Fr.refl _ _).grown h3 (fun k hk _ => hk)
  have hF3 : Fr (fun k => yv.ownBlock = some k) wr w' := (hF1.mono (fun _ _ h => h.elim)).trans hF2 (fun _ _ e => e)
  refine ⟨b, cap, w', h1, h2, hn.fr hF3 (fun k hk e => hne k e hk), ?_, ?_, hF.trans hF3 (fun i hi e => by have := hyb i e; omega), hF3⟩
  · rcases h4 with h | h
    · exact hyb b h
    · have := hF.size; simp at h; omega
  · intro e
    rcases h4 with h | h
    · exact hne b h e
    · obtain ⟨cs, hc⟩ := own_typed hn e
      have := heap_lt hc
      simp at h; omega

set_option maxRecDepth 100000 in
set_option maxHeartbeats 2000000 in
theorem divide_c (w : World) (a : Option Addr) (cap : Nat) (l : List Row) (ga : Option Addr) (gc : Nat) (g : List Id) (now : Int) (hg : Good l) (hgl : g.length ≤ 1000000) (h : AtL w a 83 rowC l) (hr : RefsAt w l) (h2 : AtL w ga 32 idC g) :
    Calls Try.prog 54 #[.slice a l.length cap, .slice ga g.length gc, .int .i64 now] w fun e w' => DivTo w w' e l (shL l g now) := by
  have hl : l.length ≤ 4096 := hg.1
  have HL := Lib.hid hl
  have HG := Lib.hid hg
  have HGL := Lib.hid hgl
  have H := Lib.hid h
  have H2 := Lib.hid h2
  have HR := Lib.hid hr
  clear hg hgl h h2 hr hl
  go_enter Try.func54, Try.ntmps54
  go_wp2_with (first
    | (go_at_call 83; refine (Check_c w a cap l HG.out H.out).mono ?_; rintro e w1 ⟨rfl, hF1⟩; have HF1 := Lib.hid hF1; clear hF1)
    | (go_at_call 84; refine (decide_c w1 a cap l ga gc g now HG.out HGL.out (H.out.non HF1.out) (HR.out.non HF1.out) (H2.out.non HF1.out)).mono ?_; rintro e w2 ⟨b13, b7, b14, b8, b5, ms, mr, ml, lr, rfl, hE, hm, hlr, hF2, hms⟩; have HE := Lib.hid hE; have HM := Lib.hid hm; have HLR := Lib.hid hlr; have HF2 := Lib.hid hF2; have HMS := Lib.hid hms; clear hE hm hlr hF2 hms)
    | fail)
  have HF02 : Hid (Fr Non w w2) := HF1.out.trans HF2.out (fun _ _ h => h)
  have HMSW := Lib.hid (show w.heap.size ≤ ms from Nat.le_trans HF1.out.size HMS.out)
  generalize hp : shL l g now = p at *
  have HP := Lib.hid hp
  clear hp
  go_loopw [6, 7, 24] (fun yv nv i wr => ∃ (k : Nat) (st : St) (lst : List (Id × Int)), i = .int .i64 k ∧ k ≤ l.length ∧ Env wr b13 b7 b14 b8 b5 ms mr ml (rowsOf l) (fun x => decide (x ∈ g)) now lr ∧ MapAt wr ms idK intV lst ∧ aget_ok lst st ∧ Inv (rowsOf l) (fun x => decide (x ∈ g)) now st ∧ (∀ x, st x ≠ 1) ∧
      Own wr 36 83 rowC yv ((l.take k).filter p) ∧ Own wr 36 83 rowC nv ((l.take k).filter fun r => !p r) ∧ (∀ b, yv.ownBlock = some b → w.heap.size ≤ b) ∧ (∀ b, nv.ownBlock = some b → w.heap.size ≤ b) ∧ (∀ b, yv.ownBlock = some b → nv.ownBlock ≠ some b) ∧ Fr Non w wr) (fun _ _ i _ => l.length - (intOf i).toNat)
  case atStart => exact ⟨0, fun _ => 0, [], rfl, Nat.zero_le _, HE.out, HM.out, fun x => rfl, ⟨(fun x h => by cases h), (fun x h => by cases h), fun x => .inl rfl⟩, fun x h => (by cases h), Own.nil _ _ _ _, Own.nil _ _ _ _, (fun b h => by cases h), (fun b h => by cases h), (fun b h => by cases h), HF02.out⟩
  case round =>
    obtain ⟨k, st, lst, rfl, hk, hE, hm, ho, hinv, hn1, hy, hn, hyb, hnb, hyn, hF⟩ := hrel
    have HE := Lib.hid hE
    have HM := Lib.hid hm
    have HO := Lib.hid ho
    have HINV := Lib.hid hinv
    have HN1 := Lib.hid hn1
    have HY := Lib.hid hy
    have HN := Lib.hid hn
    have HB := Lib.hid (And.intro hyb (And.intro hnb hyn))
    have HF := Lib.hid hF
    clear hE hm ho hinv hn1 hy hn hyb hnb hyn hF
    obtain ⟨ya, yc, rfl, -, -, -⟩ := Own.shape HY.out
    obtain ⟨na, nc, rfl, -, -, -⟩ := Own.shape HN.out
    by_cases hlt : k < l.length
    · obtain ⟨r, hr⟩ : ∃ r, l[k]? = some r := ⟨_, List.getElem?_eq_getElem hlt⟩
      obtain ⟨b, o, rfl, hrr⟩ := (H.out.non HF.out).get hr
      have HRR := Lib.hid hrr
      have hk9 : (k : Int) ≤ 4096 := by have := HL.out; omega
      have hb3 := heap_alloc_new wr (.cells (rowC r).toArray 36)
      have hF3 : Fr Non wr (wr.alloc (.cells (rowC r).toArray 36)) := (Fr.refl _ wr).alloc _
      obtain ⟨w3, hw3⟩ : ∃ w3, wr.alloc (.cells (rowC r).toArray 36) = w3 := ⟨_, rfl⟩
      rw [hw3] at hb3 hF3
      have hrow := rowsOf_self HG.out.2.2 (List.mem_of_getElem? hr)
      have hE3 : Env w3 b13 b7 b14 b8 b5 ms mr ml (rowsOf l) (fun x => decide (x ∈ g)) now lr := HE.out.move hF3 (fun _ h => h.elim) (fun x r hx => (HR.out.non (HF.out.trans hF3 (fun _ _ h => h))) r (rowsOf_mem hx).1)
      have hund : und lr st < l.length + 1 := by have := und_le lr st; have := HLR.out; omega
      have HCALL := Lib.hid (is_c b13 b7 b14 b8 b5 ms mr ml (rowsOf l) (fun x => decide (x ∈ g)) now lr (l.length + 1) r st lst w3 hE3 hrow (HM.out.fr hF3 (fun h => h)) HO.out hund)
      have hsem := isF_sem (rowsOf l) (fun x => decide (x ∈ g)) now lr hE3.hrows.2 (fun x r hx => (rowsOf_mem hx).2) (l.length + 1) r st hrow hund HINV.out (fun x hx => absurd hx (HN1.out x))
      have HSEM := Lib.hid hsem
      have HB3 := Lib.hid (rangeAt_of hb3 0 (rowC r) (by simp))
      have HB3h := Lib.hid hb3
      have HF3 := Lib.hid hF3
      have HE3 := Lib.hid hE3
      have HLT := Lib.hid hlt
      have HRE := Lib.hid hr
      clear hrr hr hb3 hF3 hrow hE3 hund hsem
      go_wp2_with (first
        | (guard_target =~ wpList _ _ _ (⟨some 27, Op.load 36 _, _, _, _, _⟩ :: _) _ _; refine wl rfl (r_load (b := b) (i := o + k * 83) rfl rfl HRR.out Try.underlying36 rfl (by rw [sz36, rowC_length])) ?_)
        | (guard_target =~ wpList _ _ _ (⟨_, Op.alloc 36, _, _, _, _⟩ :: _) _ _; refine wl rfl (r_allocA rfl (zero36 _)) ?_)
        | (guard_target =~ wpList _ _ _ (⟨_, Op.store 36 _ _, _, _, _, _⟩ :: _) _ _; refine wu rfl (r_store_new (c' := (rowC r).toArray) rfl rfl rfl (by rw [sz36]; simp [rowC_length]) (by simp [rowC_length]) (all_oneCell_toArray (rowC_one r))) ?_; rw [hw3])
        | (guard_target =~ wpList _ _ _ (⟨some 29, Op.load 36 _, _, _, _, _⟩ :: _) _ _; refine wl rfl (r_load (b := wr.heap.size) (i := 0) rfl rfl HB3.out Try.underlying36 rfl (by rw [sz36, rowC_length])) ?_)
        | fail)
      refine HCALL.out.mono ?_
      rintro e w4 ⟨y, rfl, hy, l4, hm4, ho4, hF4⟩
      have hF04 : Fr Non w w4 := (HF.out.trans HF3.out (fun _ _ h => h)).trans hF4 (fun i hi e => by have e' : i = ms := e; have := HMSW.out; omega)
      have hms3 : ∀ {b : Nat} {cs : Array Value} {t : TypeId}, w3.heap[b]? = some (.cells cs t) → b ≠ ms := fun hb e => by
        obtain ⟨es, c, q, _⟩ := (HM.out.fr HF3.out (fun h => h)).ex
        rw [e, q] at hb; cases hb
      have hY4 := (HY.out.fr HF3.out (fun _ _ h => h)).fr hF4 (fun b hb e => by obtain ⟨cs, hc⟩ := own_typed (HY.out.fr HF3.out (fun _ _ h => h)) hb; exact hms3 hc e)
      have hN4 := (HN.out.fr HF3.out (fun _ _ h => h)).fr hF4 (fun b hb e => by obtain ⟨cs, hc⟩ := own_typed (HN.out.fr HF3.out (fun _ _ h => h)) hb; exact hms3 hc e)
      have hE4 := HE3.out.fr (HM.out.fr HF3.out (fun h => h)) hF4
      have hb4 := hF4.keep HB3h.out (hms3 HB3h.out)
      have hpr : p r = y := by
        rw [← HP.out]
        have : y = true ↔ shL l g now r = true := by rw [hy]; unfold shL; rw [shB_iff]; exact HSEM.out.1
        cases y with
        | true => exact this.1 rfl
        | false => cases hs : shL l g now r with
          | true => exact absurd (this.2 hs) (by decide)
          | false => rfl
      have HB4 := Lib.hid (rangeAt_of hb4 0 (rowC r) (by simp))
      have hl4 : ((l.take k).filter p).length ≤ 4096 := by have := List.length_filter_le p (l.take k); rw [List.length_take] at this; have := HL.out; omega
      have hl5 : ((l.take k).filter fun r => !p r).length ≤ 4096 := by have := List.length_filter_le (fun r => !p r) (l.take k); rw [List.length_take] at this; have := HL.out; omega
      cases y with
      | true =>
        obtain ⟨bb, cc, w5, hrun, hY5, hN5, hb5, hn5, hF05, hF45⟩ := put_row r hF04 hY4 hN4 HB.out.1 HB.out.2.2 hl4
        have HRUN := Lib.hid hrun
        have hE5 := hE4.move hF45 (fun b hb => own_typed hY4 hb) (fun x r hx => (HR.out.non hF05) r (rowsOf_mem hx).1)
        have hm5 := hm4.fr hF45 (fun e => by obtain ⟨cs, hc⟩ := own_typed hY4 e; obtain ⟨es, c, q, _⟩ := hm4.ex; rw [hc] at q; cases q)
        have HX := Lib.hid (And.intro hE5 (And.intro hm5 (And.intro ho4 (And.intro hY5 (And.intro hN5 (And.intro hb5 (And.intro hn5 hF05)))))))
        have HPR := Lib.hid hpr
        clear hrun hE5 hm5 hm4 ho4 hY5 hN5 hb5 hn5 hF05 hF45 hY4 hN4 hE4 hb4 hF04 hms3 hpr hl4 hl5 hF4 hy
        go_wp2_with (first
          | (guard_target =~ wpList _ _ _ (⟨some 32, Op.load 36 _, _, _, _, _⟩ :: _) _ _; refine wl rfl (r_load (b := wr.heap.size) (i := 0) rfl rfl HB4.out Try.underlying36 rfl (by rw [sz36, rowC_length])) ?_)
          | (guard_target =~ wpList _ _ _ (⟨_, Op.buildSlice _ _ _, _, _, _, _⟩ :: _) _ _; refine wl rfl (r_buildSlice (vs := [(0, .agg (rowC r).toArray)]) rfl rfl (buildSlice22 w4 r)) ?_)
          | (at_builtin; refine wl rfl (r_builtin (vs := [.slice ya ((l.take k).filter p).length yc, .slice (some ⟨w4.heap.size, 0, none⟩) 1 1]) rfl rfl (builtin_append HRUN.out)) ?_)
          | fail)
        go_roundw
        case rel =>
          have f1 := filter_take_succ HRE.out p
          have f2 := filter_take_succ HRE.out (fun r => !p r)
          simp only [HPR.out, if_true, Bool.not_true, Bool.false_eq_true, if_false, List.append_nil] at f1 f2
          refine ⟨k + 1, _, l4, by go_num, by have := HLT.out; omega, HX.out.1, HX.out.2.1, HX.out.2.2.1, HSEM.out.2.1, fun x hx => HN1.out x ((HSEM.out.2.2 x).1 hx), by rw [f1]; exact HX.out.2.2.2.1, by rw [f2]; exact HX.out.2.2.2.2.1, fun b hb => (by cases hb; exact HX.out.2.2.2.2.2.1), HB.out.2.1, fun b hb => (by cases hb; exact HX.out.2.2.2.2.2.2.1), HX.out.2.2.2.2.2.2.2⟩
        case measure => have := HLT.out; simp [intOf] <;> omega
      | false =>
        obtain ⟨bb, cc, w5, hrun, hN5, hY5, hb5, hn5, hF05, hF45⟩ := put_row r hF04 hN4 hY4 HB.out.2.1 (fun b h1 h2 => HB.out.2.2 b h2 h1) hl5
        have HRUN := Lib.hid hrun
        have hE5 := hE4.move hF45 (fun b hb => own_typed hN4 hb) (fun x r hx => (HR.out.non hF05) r (rowsOf_mem hx).1)
        have hm5 := hm4.fr hF45 (fun e => by obtain ⟨cs, hc⟩ := own_typed hN4 e; obtain ⟨es, c, q, _⟩ := hm4.ex; rw [hc] at q; cases q)
        have HX := Lib.hid (And.intro hE5 (And.intro hm5 (And.intro ho4 (And.intro hY5 (And.intro hN5 (And.intro hb5 (And.intro hn5 hF05)))))))
        have HPR := Lib.hid hpr
        clear hrun hE5 hm5 hm4 ho4 hY5 hN5 hb5 hn5 hF05 hF45 hY4 hN4 hE4 hb4 hF04 hms3 hpr hl4 hl5 hF4 hy
        go_wp2_with (first
          | (guard_target =~ wpList _ _ _ (⟨some 36, Op.load 36 _, _, _, _, _⟩ :: _) _ _; refine wl rfl (r_load (b := wr.heap.size) (i := 0) rfl rfl HB4.out Try.underlying36 rfl (by rw [sz36, rowC_length])) ?_)
          | (guard_target =~ wpList _ _ _ (⟨_, Op.buildSlice _ _ _, _, _, _, _⟩ :: _) _ _; refine wl rfl (r_buildSlice (vs := [(0, .agg (rowC r).toArray)]) rfl rfl (buildSlice22 w4 r)) ?_)
          | (at_builtin; refine wl rfl (r_builtin (vs := [.slice na ((l.take k).filter fun r => !p r).length nc, .slice (some ⟨w4.heap.size, 0, none⟩) 1 1]) rfl rfl (builtin_append HRUN.out)) ?_)
          | fail)
        go_roundw
        case rel =>
          have f1 := filter_take_succ HRE.out p
          have f2 := filter_take_succ HRE.out (fun r => !p r)
          simp only [HPR.out, if_true, Bool.not_false, Bool.false_eq_true, if_false, List.append_nil] at f1 f2
          refine ⟨k + 1, _, l4, by go_num, by have := HLT.out; omega, HX.out.1, HX.out.2.1, HX.out.2.2.1, HSEM.out.2.1, fun x hx => HN1.out x ((HSEM.out.2.2 x).1 hx), by rw [f1]; exact HX.out.2.2.2.1, by rw [f2]; exact HX.out.2.2.2.2.1, HB.out.1, fun b hb => (by cases hb; exact HX.out.2.2.2.2.2.1), fun b hb e => (by cases e; exact HX.out.2.2.2.2.2.2.1 hb), HX.out.2.2.2.2.2.2.2⟩
        case measure => have := HLT.out; simp [intOf] <;> omega
    · obtain rfl : k = l.length := by omega
      rw [List.take_length] at HY HN ⊢
      go_wp2
      go_ret3
      exact ⟨ya, yc, na, nc, by rw [HP.out]; rfl, by rw [HP.out]; exact HY.out, by rw [HP.out]; exact HN.out, HF.out⟩
end Go.Proofs.Ytfemaeacmnhdlaa
