/-
  run: the operations, one behind the other, on a new device and on the reference.
-/
import Derived.Test.YticgkbpmaakkiaaDkXtoDkZq
import Derived.Test.YticgkbpmaakkiaaOp2toRg3q
namespace Go.Proofs.Yticgkbpmaakkiaa
open Go.RowKit

set_option maxRecDepth 100000 in
theorem small_c (w : World) (a : Option Addr) (len cap : Nat) : Calls Try.prog 22 #[.slice a len cap] w fun e w' => e = .returned (.bool (decide (len ≤ 40))) ∧ w = w' := by
  by_cases h : len ≤ 40
  · have h1 : (len : Int) ≤ 40 := by omega
    rw [decide_eq_true h]; clear h
    go_enter Try.func22, Try.ntmps22
    go_wp2
    go_ret
    exact ⟨rfl, rfl⟩
  · have h1 : ¬ (len : Int) ≤ 40 := by omega
    rw [decide_eq_false h]; clear h
    go_enter Try.func22, Try.ntmps22
    go_wp2
    go_ret
    exact ⟨rfl, rfl⟩

/-- An operation as it lies: its fields, its choices' slice, the choices. -/
abbrev OpX := OpS × Value × List UInt8
def OpGood (w : World) (x : OpX) : Prop := (∃ ca cl cc, x.2.1 = .slice ca cl cc) ∧ BytesAt w x.2.1 x.2.2 ∧ x.2.2.length ≤ 9223372036854775807 ∧ (x.2.2 = [] ∨ ∀ k, x.2.1.ownBlock = some k → k < w.heap.size) ∧ x.1.at' ≤ 9223372036854775807
def OpsAt (w : World) (a : Option Addr) (os : List OpX) : Prop :=
  (os = [] ∨ ∃ b o, a = some ⟨b, o, none⟩ ∧ ∀ (i : Nat) (x : OpX), os[i]? = some x → w.rangeAt b (o + i * 6) (opL x.1 x.2.1)) ∧ ∀ x ∈ os, OpGood w x

def Dsk.acts (D : Dsk) (os : List OpX) : Dsk := os.foldl (fun D x => D.act x.1 x.2.2) D

theorem acts_ok (os : List OpX) : ∀ (D : Dsk) (k : Nat), Dok D → D.pend.length ≤ k → k + os.length ≤ 49999 → (∀ x ∈ os, x.1.at' ≤ 9223372036854775807) → Dok (D.acts os) ∧ (D.acts os).pend.length ≤ k + os.length ∧ (D.acts os).n = D.n := by
  induction os with
  | nil => intro D k h hl _ _; exact ⟨h, hl, rfl⟩
  | cons x r ih =>
    intro D k h hl hk ha
    simp only [List.length_cons] at hk ⊢
    obtain ⟨h1, h2, h3⟩ := act_ok D x.1 x.2.2 h (by omega) (ha x (List.mem_cons_self ..))
    obtain ⟨g1, g2, g3⟩ := ih (D.act x.1 x.2.2) (k + 1) h1 (by omega) (by omega) (fun y hy => ha y (List.mem_cons_of_mem _ hy))
    exact ⟨g1, by have : (D.acts (x :: r)) = (D.act x.1 x.2.2).acts r := rfl; rw [this]; omega, g3.trans h3⟩

theorem acts_snoc (D : Dsk) (os : List OpX) (x : OpX) : D.acts (os ++ [x]) = (D.acts os).act x.1 x.2.2 := List.foldl_append ..

theorem DiskAt.no45 {w : World} {p m : Nat} {pv : Value} {D : Dsk} (h : DiskAt w p m pv D) {k : Nat} {cs : Array Value} (hk : w.heap[k]? = some (.cells cs 45)) : ¬ Foot p m pv k := by
  rintro (rfl | rfl | hk')
  · rw [h.hp] at hk; cases hk
  · obtain ⟨l, hl, _⟩ := h.hm
    obtain ⟨es, c, hb, _⟩ := hl.ex
    rw [hb] at hk; cases hk
  · obtain ⟨cs', hc⟩ := Own.typed (show Own w 82 257 wcells pv D.pend from h.hv) hk'
    rw [hc] at hk; cases hk

theorem OpGood.non {w w' : World} {x : OpX} (h : OpGood w x) (hf : Fr Non w w') : OpGood w' x :=
  ⟨h.1, h.2.1.fr hf (fun _ _ h => h), h.2.2.1, h.2.2.2.1.imp id (fun q k hk => Nat.lt_of_lt_of_le (q k hk) hf.size), h.2.2.2.2⟩
theorem OpsAt.non {w w' : World} {a : Option Addr} {os : List OpX} (h : OpsAt w a os) (hf : Fr Non w w') : OpsAt w' a os :=
  ⟨h.1.imp id (fun ⟨b, o, e, q⟩ => ⟨b, o, e, fun i x hx => rangeAt_fr hf (q i x hx) (fun h => h)⟩), fun x hx => (h.2 x hx).non hf⟩

/-- The device and the reference hold one state; every block of the device lies from B on. -/
structure Both (B : Nat) (w : World) (p m : Nat) (pv dv wv : Value) (D : Dsk) : Prop where
  d : DiskAt w p m pv D
  r : RefAt w dv wv D
  ok : Dok D
  foot : ∀ k, Foot p m pv k → B ≤ k

def RunTo (w w' : World) (e : Ending) (D : Dsk) : Prop := ∃ p m pv dv wv, e = .returned (.tuple #[.pointer (some ⟨p, 0, none⟩), .agg (refL dv wv D).toArray, .bool true]) ∧ Both w.heap.size w' p m pv dv wv D ∧ Fr Non w w'

/-- One operation, inside a longer run. -/
theorem do_step {w0 w : World} {p m : Nat} {pv dv wv : Value} {D : Dsk} (hb : Both w0.heap.size w p m pv dv wv D) (hl : D.pend.length ≤ 49999) (hF : Fr Non w0 w) (x : OpX) (hx : OpGood w0 x) :
    Calls Try.prog 29 #[.pointer (some ⟨p, 0, none⟩), .agg (refL dv wv D).toArray, .agg (opL x.1 x.2.1).toArray] w fun e w' => DoTo w w' p m pv e (D.act x.1 x.2.2) := by
  obtain ⟨⟨ca, cl, cc, e1⟩, h2, h3, h4, h5⟩ := hx
  rw [e1] at h2 h4 ⊢
  exact Do_c w p m pv dv wv D x.1 ca cl cc x.2.2 h3 (h2.fr hF (fun _ _ h => h)) (h4.imp id (fun q k hk hf => by have := hb.foot k hf; have := q k hk; omega)) hb.ok hl hb.d hb.r

theorem Both.step {w0 w w' : World} {p m : Nat} {pv dv wv : Value} {D D' : Dsk} (hb : Both w0.heap.size w p m pv dv wv D) (hF : Fr Non w0 w) {dv' wv' : Value} (hS : Step w w' p m pv D') (hR : RefAt w' dv' wv' D') (hD' : Dok D') :
    ∃ pv', Both w0.heap.size w' p m pv' dv' wv' D' ∧ Fr Non w0 w' := by
  obtain ⟨pv', h1, h2, h3⟩ := hS
  refine ⟨pv', ⟨h1, hR, hD', fun k hk => ?_⟩, hF.trans h2 (fun i hi hf => by have := hb.foot i hf; omega)⟩
  rcases hk with e | e | e
  · exact hb.foot k (.inl e)
  · exact hb.foot k (.inr (.inl e))
  · rcases h3 k e with h | h
    · exact hb.foot k (.inr (.inr h))
    · exact Nat.le_trans hF.size h

/-- A block of the reference's kind is written. -/
theorem Both.put {B : Nat} {w : World} {p m g : Nat} {pv dv wv : Value} {D : Dsk} {cs : Array Value} (hb : Both B w p m pv dv wv D) (hg : w.heap[g]? = some (.cells cs 45)) (l : List Value) : Both B (w.setCells g 0 l) p m pv dv wv D := by
  have hF : Fr (· = g) w (w.setCells g 0 l) := Fr.setCells (S := (· = g)) _ (fun _ => rfl) _ _ _ (Fr.refl _ _)
  refine ⟨hb.d.fr hF (fun k hk e => by subst e; exact hb.d.no45 hg hk), hb.r.fr hF (fun k e cs' => ?_), hb.ok, hb.foot⟩
  subst e; rw [hg]; exact ⟨by simp, by simp, by simp⟩
theorem Both.non {B : Nat} {w w' : World} {p m : Nat} {pv dv wv : Value} {D : Dsk} (hb : Both B w p m pv dv wv D) (hF : Fr Non w w') : Both B w' p m pv dv wv D :=
  ⟨hb.d.fr hF (fun _ _ h => h), hb.r.non hF, hb.ok, hb.foot⟩

theorem results_run {P : Program} {fn : Func} {p q s : Tmp} {ty : TypeId} (h : fn.results = #[.tmp p, .cell q ty, .tmp s]) (tmps : Array Value) (w : World) (g : Nat) (t : TypeId) (cs : Array Value) (fr : Nat × Nat) (d : TypeDesc) (u v : Value)
    (hu' : tmps.getD p undef = u) (hp : tmps.getD q undef = .pointer (some ⟨g, 0, none⟩)) (hg : w.heap[g]? = some (.cells cs t fr)) (hv : tmps.getD s undef = v)
    (hu : P.underlying ty = some d) (hd : (match d with | .struct _ | .array _ _ => true | _ => false) = true) (hi : (P.info? ty).map (·.size) = some cs.size) :
    (results fn tmps).run P w = .ok (.tuple #[u, .agg cs, v]) w := by
  have hu'' : tmps[p]?.getD undef = u := by simpa using hu'
  have hp' : tmps[q]?.getD undef = .pointer (some ⟨g, 0, none⟩) := by simpa using hp
  have hv' : tmps[s]?.getD undef = v := by simpa using hv
  simp [results, h, hu'', hp', hv', asAddr, run_loadVar_row w g t ty cs fr d hg hu hd hi]

set_option maxRecDepth 100000 in
set_option maxHeartbeats 1000000 in
theorem run_c (w : World) (n : Int) (h0 : 1 ≤ n) (h1 : n ≤ 4096) (a : Option Addr) (cap : Nat) (os : List OpX) (hl : os.length ≤ 40) (ho : OpsAt w a os) :
    Calls Try.prog 23 #[.int .i64 n, .slice a os.length cap] w fun e w' => RunTo w w' e ((Dsk.fresh n).acts os) := by
  have hb0 := heap_alloc_new w (.cells zref 45)
  have hF0 : Fr Non w (w.alloc (.cells zref 45)) := (Fr.refl _ w).alloc _
  obtain ⟨w1, hw1⟩ : ∃ w1, w.alloc (.cells zref 45) = w1 := ⟨_, rfl⟩
  rw [hw1] at hb0 hF0
  have hs1 : w1.heap.size = w.heap.size + 1 := by rw [← hw1]; simp
  have HO := Lib.hid ho
  have HB1 := Lib.hid hb0
  have HF1 := Lib.hid hF0
  have HS1 := Lib.hid hs1
  clear ho hb0 hF0 hs1
  go_enter Try.func23, Try.ntmps23
  go_wp2_with (first
    | (guard_target =~ wpList _ _ _ (⟨_, Op.alloc 45, _, _, _, _⟩ :: _) _ _; refine wl rfl (r_allocA rfl (zero45 _)) ?_; rw [hw1])
    | (go_at_call 12; refine (New_yes w1 n h0 h1).mono ?_; rintro e w2 ⟨rfl, hd2, hF2⟩; have HD2 := Lib.hid hd2; have HF2 := Lib.hid hF2; have HP := Lib.hid (show w.heap.size ≤ w1.heap.size + 1 ∧ w.heap.size ≤ w1.heap.size from (by have := HS1.out; omega)); clear hd2 hF2; generalize w1.heap.size + 1 = p at *; generalize w1.heap.size = m at *)
    | (go_at_call 41; refine (RNew_yes w2 n h0 h1).mono ?_; rintro e w3 ⟨dv, wv, rfl, hR3, hF3⟩; have HR3 := Lib.hid hR3; have HF3 := Lib.hid hF3; have HB3 := Lib.hid (hF3.keep (HF2.out.keep HB1.out (fun h => h)) (fun h => h)); clear hR3 hF3)
    | (guard_target =~ wpList _ _ _ (⟨_, Op.store 45 _ _, _, _, _, _⟩ :: _) _ w3; refine wu rfl (r_store (b := w.heap.size) (i := 0) (cs := refL dv wv (Dsk.fresh n)) rfl rfl rfl (there45 HB3.out rfl) (by rw [sz45]; rfl) (refL_one HR3.out _)) ?_; have HB4 := Lib.hid (put45 HB3.out rfl (l := refL dv wv (Dsk.fresh n)) rfl); have HBo := Lib.hid (Both.put (B := w.heap.size) (g := w.heap.size) ⟨HD2.out.fr HF3.out (fun _ _ h => h), HR3.out, fresh_ok n h0 h1, fun k hk => (by rcases hk with rfl | rfl | hk; exact HP.out.1; exact HP.out.2; cases hk)⟩ HB3.out (refL dv wv (Dsk.fresh n))); have HF4 : Hid (Fr Non w (w3.setCells w.heap.size 0 (refL dv wv (Dsk.fresh n)))) := Fr.setCells _ (fun h => by omega) _ _ _ ((HF1.out.trans HF2.out (fun _ _ h => h)).trans HF3.out (fun _ _ h => h)); generalize w3.setCells w.heap.size 0 (refL dv wv (Dsk.fresh n)) = W4 at *)
    | fail)
  go_loopw [4, 6, 9] (fun dp okv i wr => ∃ (k : Nat) (bb : Bool) (pv dv wv : Value), dp = .pointer (some ⟨p, 0, none⟩) ∧ i = .int .i64 k ∧ okv = .bool bb ∧ k ≤ os.length ∧ wr.heap[w.heap.size]? = some (.cells (refL dv wv ((Dsk.fresh n).acts (os.take k))).toArray 45) ∧ Both w.heap.size wr p m pv dv wv ((Dsk.fresh n).acts (os.take k)) ∧ Fr Non w wr ∧ ((Dsk.fresh n).acts (os.take k)).pend.length ≤ 40) (fun _ _ i _ => os.length - (intOf i).toNat)
  case atStart => exact ⟨0, false, _, dv, wv, rfl, rfl, rfl, Nat.zero_le _, HB4.out, HBo.out, HF4.out, Nat.zero_le _⟩
  case round =>
    obtain ⟨k, bb, pv, dv, wv, rfl, rfl, rfl, hk, hB, hBo, hF, hpl⟩ := hrel
    have HB := Lib.hid hB
    have HBO := Lib.hid hBo
    have HF := Lib.hid hF
    have HPL := Lib.hid hpl
    clear hB hBo hF hpl
    by_cases hlt : k < os.length
    · obtain ⟨x, hx⟩ : ∃ x, os[k]? = some x := ⟨_, List.getElem?_eq_getElem hlt⟩
      have hD' : (Dsk.fresh n).acts (os.take (k + 1)) = ((Dsk.fresh n).acts (os.take k)).act x.1 x.2.2 := by rw [List.take_add_one, hx]; exact acts_snoc _ _ _
      have hgood := HO.out.2 x (List.mem_of_getElem? hx)
      have hok := act_ok ((Dsk.fresh n).acts (os.take k)) x.1 x.2.2 HBO.out.ok (by have := HPL.out; omega) hgood.2.2.2.2
      have hpl' : ((Dsk.fresh n).acts (os.take (k + 1))).pend.length ≤ 40 := by
        obtain ⟨-, q, -⟩ := acts_ok (os.take (k + 1)) (Dsk.fresh n) 0 (fresh_ok n h0 h1) (Nat.zero_le _) (by rw [List.length_take]; omega) (fun y hy => (HO.out.2 y (List.mem_of_mem_take hy)).2.2.2.2)
        rw [List.length_take] at q; omega
      rw [hD'] at hpl'
      have hox := HO.out.1
      have hox' : ∃ b o, a = some ⟨b, o, none⟩ ∧ w.rangeAt b (o + k * 6) (opL x.1 x.2.1) := by
        rcases hox with h | ⟨b, o, e, q⟩
        · rw [h] at hlt; simp at hlt
        · exact ⟨b, o, e, q k x hx⟩
      obtain ⟨b, o, rfl, hox2⟩ := hox'
      have HOX : Hid (wr.drew.rangeAt b (o + k * 6) (opL x.1 x.2.1)) := rangeAt_fr (HF.out.drew) hox2 (fun h => h)
      have HCALL := Lib.hid (do_step (w := wr.drew) (HBO.out.non ((Fr.refl Non wr).drew)) (by have := HPL.out; omega) HF.out.drew x hgood)
      have HD : Hid (DiskAt wr.drew p m pv ((Dsk.fresh n).acts (os.take k))) := HBO.out.d.fr ((Fr.refl Non wr).drew) (fun _ _ h => h)
      have HOK := Lib.hid hok
      have HPL' := Lib.hid hpl'
      have HDE := Lib.hid hD'
      have HX := Lib.hid hx
      clear hok hpl' hox hox2 hgood hD' hx
      generalize (Dsk.fresh n).acts (os.take k) = D at *
      go_wp2_with fail
      refine rc (fun W : World => W.rangeAt w.heap.size 0 (refL dv wv D) ∧ W.rangeAt b (o + k * 6) (opL x.1 x.2.1)) 6 (by kernel_rfl) ?_
      have hS : (fun W : World => W.rangeAt w.heap.size 0 (refL dv wv D) ∧ W.rangeAt b (o + k * 6) (opL x.1 x.2.1)) wr.drew := ⟨rangeAt_of (w := wr.drew) HB.out 0 (refL dv wv D) (by simp), HOX.out⟩
      refine tp (i := 0) (v := .pointer (some ⟨p, 0, none⟩)) rfl (by kernel_rfl) (fun _ _ _ h => h) rfl (fun W0 => r_move rfl rfl) (.inr hS) ?_
      simp only [Act.put, List.setIfInBounds_toArray, List.set_cons_zero, List.set_cons_succ]
      refine tp (i := 2) (v := .slice (some ⟨b, o, none⟩) os.length cap) rfl (by kernel_rfl) (fun _ _ _ h => h) rfl (fun W0 => r_move rfl rfl) (.inr hS) ?_
      simp only [Act.put, List.setIfInBounds_toArray, List.set_cons_zero, List.set_cons_succ]
      refine tp (i := 3) (v := .int .i64 (k : Int)) rfl (by kernel_rfl) (fun _ _ _ h => h) rfl (fun W0 => r_move rfl rfl) (.inr hS) ?_
      simp only [Act.put, List.setIfInBounds_toArray, List.set_cons_zero, List.set_cons_succ]
      refine tp (i := 4) (v := .pointer (some ⟨b, o + k * 6, none⟩)) rfl (by kernel_rfl) (fun _ _ _ h => h) rfl (fun W0 => by unfold RunV; go_simp) (.inr hS) ?_
      simp only [Act.put, List.setIfInBounds_toArray, List.set_cons_zero, List.set_cons_succ]
      refine tc (i := 1) (v := .agg (refL dv wv D).toArray) rfl 8 (by kernel_rfl) (fun _ _ _ h => h) rfl (fun W0 hw => r_load (b := w.heap.size) (i := 0) rfl rfl hw.1 Try.underlying45 rfl (by rw [sz45]; rfl)) hS ?_
      simp only [Act.put, List.setIfInBounds_toArray, List.set_cons_zero, List.set_cons_succ]
      refine tc (i := 5) (v := .agg (opL x.1 x.2.1).toArray) rfl 8 (by kernel_rfl) (fun _ _ _ h => h) rfl (fun W0 hw => r_load (b := b) (i := o + k * 6) rfl rfl hw.2 Try.underlying60 rfl (by rw [sz60]; rfl)) hS ?_
      simp only [Act.put, List.setIfInBounds_toArray, List.set_cons_zero, List.set_cons_succ]
      clear hS
      refine oc4 (i := 6) rfl (by kernel_rfl) rfl (by kernel_rfl) ?_
      unfold Oper.wp
      go_simp
      refine HCALL.out.mono ?_
      rintro e w5 ⟨dv5, wv5, rfl, hS5, hR5⟩
      have hB5 : w5.heap[w.heap.size]? = some (.cells (refL dv wv D).toArray 45) := hS5.choose_spec.2.1.keep HB.out (HD.out.no45 HB.out)
      refine tp (i := 7) (v := .tuple #[.agg (refL dv5 wv5 (D.act x.1 x.2.2)).toArray, .bool true]) rfl (by kernel_rfl) (fun _ _ _ h => h) rfl (fun W0 => r_move rfl rfl) (.inl (by kernel_rfl)) ?_
      simp only [Act.put, List.setIfInBounds_toArray, List.set_cons_zero, List.set_cons_succ]
      refine tp (i := 8) (v := .agg (refL dv5 wv5 (D.act x.1 x.2.2)).toArray) rfl (by kernel_rfl) (fun _ _ _ h => h) rfl (fun W0 => by unfold RunV; go_simp) (.inl (by kernel_rfl)) ?_
      simp only [Act.put, List.setIfInBounds_toArray, List.set_cons_zero, List.set_cons_succ]
      refine tp (i := 9) (v := .bool true) rfl (by kernel_rfl) (fun _ _ _ h => h) rfl (fun W0 => by unfold RunV; go_simp) (.inl (by kernel_rfl)) ?_
      simp only [Act.put, List.setIfInBounds_toArray, List.set_cons_zero, List.set_cons_succ]
      refine oc2u (i := 10) rfl (by kernel_rfl) rfl (by kernel_rfl) (r_store (b := w.heap.size) (i := 0) (cs := refL dv5 wv5 (D.act x.1 x.2.2)) rfl rfl rfl (there45 hB5 rfl) (by rw [sz45]; rfl) (refL_one hR5 _)) ?_
      simp only [Act.put, List.setIfInBounds_toArray, List.set_cons_zero, List.set_cons_succ]
      refine tp (i := 11) (v := .bool true) rfl (by kernel_rfl) (fun _ _ _ h => h) rfl (fun W0 => r_assign rfl rfl) (.inl (by kernel_rfl)) ?_
      simp only [Act.put, List.setIfInBounds_toArray, List.set_cons_zero, List.set_cons_succ]
      refine dc (by kernel_rfl) ?_
      have hst := HBO.out
      obtain ⟨pv6, hBo6, hF6⟩ := Both.step (HBO.out.non ((Fr.refl Non wr).drew)) HF.out.drew hS5 hR5 HOK.out.1
      have HB6 := Lib.hid (put45 hB5 rfl (l := refL dv5 wv5 (D.act x.1 x.2.2)) rfl)
      have HBO6 := Lib.hid (hBo6.put hB5 (refL dv5 wv5 (D.act x.1 x.2.2)))
      have HF6 : Hid (Fr Non w (w5.setCells w.heap.size 0 (refL dv5 wv5 (D.act x.1 x.2.2)))) := Fr.setCells _ (fun h => by omega) _ _ _ hF6
      clear hBo6 hF6 hS5 hR5 hB5 hst
      generalize w5.setCells w.heap.size 0 (refL dv5 wv5 (D.act x.1 x.2.2)) = W6 at *
      go_wp2
      go_roundw
      case rel => exact ⟨k + 1, true, pv6, dv5, wv5, rfl, by go_num, rfl, by omega, by rw [HDE.out]; exact HB6.out, by rw [HDE.out]; exact HBO6.out, HF6.out, by rw [HDE.out]; exact HPL'.out⟩
      case measure => simp [intOf] <;> omega
    · obtain rfl : k = os.length := by omega
      rw [List.take_length] at HB HBO HPL
      have HR : Hid (RefAt wr dv wv ((Dsk.fresh n).acts os)) := HBO.out.r
      obtain ⟨D, hD⟩ : ∃ D, (Dsk.fresh n).acts os = D := ⟨_, rfl⟩
      rw [hD] at HB HBO HPL HR
      have HDE := Lib.hid hD
      clear hD
      go_wp2_with fail
      refine rc (fun W : World => W.rangeAt w.heap.size 0 (refL dv wv D)) 3 (by kernel_rfl) ?_
      have hS : (fun W : World => W.rangeAt w.heap.size 0 (refL dv wv D)) wr.drew := rangeAt_of (w := wr.drew) HB.out 0 (refL dv wv D) (by simp)
      refine tp (i := 0) (v := .pointer (some ⟨p, 0, none⟩)) rfl (by kernel_rfl) (fun _ _ _ h => h) rfl (fun W0 => r_move rfl rfl) (.inr hS) ?_
      simp only [Act.put, List.setIfInBounds_toArray, List.set_cons_zero, List.set_cons_succ]
      refine tp (i := 2) (v := .pointer (some ⟨p, 0, none⟩)) rfl (by kernel_rfl) (fun _ _ _ h => h) rfl (fun W0 => r_assign rfl rfl) (.inr hS) ?_
      simp only [Act.put, List.setIfInBounds_toArray, List.set_cons_zero, List.set_cons_succ]
      refine tc (i := 1) (v := .agg (refL dv wv D).toArray) rfl 8 (by kernel_rfl) (fun _ _ _ h => h) rfl (fun W0 hw => r_load (b := w.heap.size) (i := 0) rfl rfl hw Try.underlying45 rfl (by rw [sz45]; rfl)) hS ?_
      simp only [Act.put, List.setIfInBounds_toArray, List.set_cons_zero, List.set_cons_succ]
      clear hS
      refine oc2u (i := 3) rfl (by kernel_rfl) rfl (by kernel_rfl) (r_store (b := w.heap.size) (i := 0) (cs := refL dv wv D) rfl rfl rfl (there45 HB.out rfl) (by rw [sz45]; rfl) (refL_one HR.out _)) ?_
      simp only [Act.put, List.setIfInBounds_toArray, List.set_cons_zero, List.set_cons_succ]
      refine tp (i := 4) (v := .bool true) rfl (by kernel_rfl) (fun _ _ _ h => h) rfl (fun W0 => r_assign rfl rfl) (.inl (by kernel_rfl)) ?_
      simp only [Act.put, List.setIfInBounds_toArray, List.set_cons_zero, List.set_cons_succ]
      refine dc (by kernel_rfl) ?_
      have HB6 := Lib.hid (put45 (W := wr.drew) HB.out rfl (l := refL dv wv D) rfl)
      have HBO6 := Lib.hid ((HBO.out.non ((Fr.refl Non wr).drew)).put HB.out (refL dv wv D))
      have HF6 : Hid (Fr Non w (wr.drew.setCells w.heap.size 0 (refL dv wv D))) := Fr.setCells _ (fun h => by omega) _ _ _ HF.out.drew
      generalize wr.drew.setCells w.heap.size 0 (refL dv wv D) = W6 at *
      go_wp2
      exact bodyPost_ret (results_run rfl _ _ w.heap.size 45 _ (0, 0) _ _ _ rfl rfl HB6.out rfl Try.underlying45 rfl (by rw [sz45]; rfl)) rfl ⟨p, m, pv, dv, wv, by rw [HDE.out]; rfl, by rw [HDE.out]; exact HBO6.out, HF6.out⟩
end Go.Proofs.Yticgkbpmaakkiaa
