/-
  Do: an operation on the device and on the reference.
-/
import Derived.Test.YticgkbpmaakkiaaDkStoDkTq
import Derived.Test.YticgkbpmaakkiaaDkFtoDkHq
namespace Go.Proofs.Yticgkbpmaakkiaa
open Go.RowKit

theorem sz60 : (Try.prog.info? 60).map (·.size) = some 6 := by kernel_rfl
structure OpS where
  kind : Int
  sec : Int
  at' : Int
  first : UInt8
  step : UInt8
def opL (o : OpS) (cv : Value) : List Value := [.int .i64 o.kind, .int .i64 o.sec, .int .i64 o.at', .int .u8 o.first.toNat, .int .u8 o.step.toNat, cv]

def DoTo (w w' : World) (p m : Nat) (pv : Value) (e : Ending) (D' : Dsk) : Prop :=
  ∃ dv' wv', e = .returned (.tuple #[.agg (refL dv' wv' D').toArray, .bool true]) ∧ Step w w' p m pv D' ∧ RefAt w' dv' wv' D'

theorem box3 (w : World) (cs cs' : Array Value) : ∃ w1 w2 w3, w.alloc (.cells cs 45) = w1 ∧ w1.alloc (.cells cs' 60) = w2 ∧ w2.alloc (.cells zref 45) = w3 ∧ w1.heap.size = w.heap.size + 1 ∧ w2.heap.size = w.heap.size + 2 ∧ w3.heap.size = w.heap.size + 3 ∧
    w3.heap[w.heap.size]? = some (.cells cs 45) ∧ w3.heap[w1.heap.size]? = some (.cells cs' 60) ∧ w3.heap[w2.heap.size]? = some (.cells zref 45) ∧ Fr Non w w3 := by
  refine ⟨_, _, _, rfl, rfl, rfl, by simp, by simp, by simp, ?_, ?_, heap_alloc_new _ _, (((Fr.refl Non w).alloc _).alloc _).alloc _⟩
  · exact ((Fr.refl Non (w.alloc (.cells cs 45))).alloc _ |>.alloc _).keep (heap_alloc_new w _) (fun h => h)
  · exact ((Fr.refl Non ((w.alloc (.cells cs 45)).alloc (.cells cs' 60))).alloc _).keep (heap_alloc_new _ _) (fun h => h)

theorem foot_lt {w : World} {p m : Nat} {pv : Value} {D : Dsk} (h : DiskAt w p m pv D) {k : Nat} (hk : Foot p m pv k) : k < w.heap.size := by
  rcases hk with rfl | rfl | hk
  · exact h.plt
  · exact h.mlt
  · exact (h.vlt hk).1

theorem do_fin {w w3 w4 w5 : World} {p m : Nat} {pv : Value} {D D' : Dsk} {dv' wv' : Value} {b0 br : Nat} {o0 o1 : Array Value} (h0 : DiskAt w p m pv D) (hF3 : Fr Non w w3) (hS : Step w3 w4 p m pv D') (hF5 : Fr Non w4 w5) (hR : RefAt w5 dv' wv' D')
    (hb : w5.heap[b0]? = some (.cells o0 45)) (hr : w5.heap[br]? = some (.cells o1 45)) (hne : b0 ≠ br) (s0 : o0.size = 5) (s1 : o1.size = 5) (g0 : w.heap.size ≤ b0) (g1 : w.heap.size ≤ br) (g2 : b0 < w3.heap.size) (g3 : br < w3.heap.size) :
    (w5.there b0 0 5 ∧ (w5.setCells b0 0 (refL dv' wv' D')).rangeAt b0 0 (refL dv' wv' D') ∧ (w5.setCells b0 0 (refL dv' wv' D')).there br 0 5 ∧ ((w5.setCells b0 0 (refL dv' wv' D')).setCells br 0 (refL dv' wv' D')).heap[br]? = some (.cells (refL dv' wv' D').toArray 45)) ∧
    Step w ((w5.setCells b0 0 (refL dv' wv' D')).setCells br 0 (refL dv' wv' D')) p m pv D' ∧ RefAt ((w5.setCells b0 0 (refL dv' wv' D')).setCells br 0 (refL dv' wv' D')) dv' wv' D' := by
  obtain ⟨x1, x2, x3, x4, x5, x6⟩ := two45 hb hr hne s0 s1 (L := refL dv' wv' D') rfl
  obtain ⟨pv4, d4, f4, o4⟩ := hS
  have d5 : DiskAt w5 p m pv4 D' := d4.fr hF5 (fun _ _ h => h)
  refine ⟨⟨x1, x2, x3, x4⟩, ⟨pv4, d5.fr x5 (fun k hk e => ?_), ?_, fun k hk => ?_⟩, hR.fr x5 x6⟩
  · rcases e with rfl | rfl
    · rcases hk with e | e | e
      · have := h0.plt; omega
      · have := h0.mlt; omega
      · rcases o4 _ e with h | h
        · have := (h0.vlt h).1; omega
        · omega
    · rcases hk with e | e | e
      · have := h0.plt; omega
      · have := h0.mlt; omega
      · rcases o4 _ e with h | h
        · have := (h0.vlt h).1; omega
        · omega
  · exact ((((Fr.refl (Foot p m pv) w).trans hF3 (fun _ _ h => h.elim)).trans f4 (fun _ _ h => h)).trans hF5 (fun _ _ h => h.elim)).trans x5 (fun i hi e => by rcases e with e | e <;> (exfalso; omega))
  · rcases o4 k hk with h | h
    · exact .inl h
    · exact .inr (Nat.le_trans hF3.size h)

set_option maxRecDepth 100000 in
set_option maxHeartbeats 1000000 in
theorem Do_flush (w : World) (p m : Nat) (pv dv wv : Value) (D : Dsk) (o : OpS) (ca : Option Addr) (cl cc : Nat) (hD : Dok D) (hl : D.pend.length ≤ 49999) (h : DiskAt w p m pv D) (hr : RefAt w dv wv D) (hk : o.kind = 1) :
    Calls Try.prog 29 #[.pointer (some ⟨p, 0, none⟩), .agg (refL dv wv D).toArray, .agg (opL o (.slice ca cl cc)).toArray] w fun e w' => DoTo w w' p m pv e D.fl.1 := by
  obtain ⟨w1, w2, w3, hw1, hw2, hw3, hs1, hs2, hs3, hb, ho, hz, hF3⟩ := box3 w (refL dv wv D).toArray (opL o (.slice ca cl cc)).toArray
  have e0 : w3.cell? ⟨w1.heap.size, 0, none⟩ = some (.int .i64 1) := by rw [← hk]; exact cellOf ho 0 rfl
  have hd3 : DiskAt w3 p m pv D := h.fr hF3 (fun _ _ h => h)
  have H := Lib.hid h
  have HR := Lib.hid hr
  have HB := Lib.hid hb
  have HO := Lib.hid ho
  have HZ := Lib.hid hz
  have HF3 := Lib.hid hF3
  have HD3 := Lib.hid hd3
  have HSZ := Lib.hid (And.intro hs1 (And.intro hs2 hs3))
  clear h hr hb ho hz hF3 hd3 hs1 hs2 hs3 hk
  go_enter Try.func29, Try.ntmps29
  go_wp2_with (first
    | (guard_target =~ wpList _ _ _ (⟨_, Op.box 45 _, _, _, _, _⟩ :: _) _ _; refine wl rfl (r_boxA rfl rfl) ?_; rw [hw1])
    | (guard_target =~ wpList _ _ _ (⟨_, Op.box 60 _, _, _, _, _⟩ :: _) _ _; refine wl rfl (r_boxA rfl rfl) ?_; rw [hw2])
    | (guard_target =~ wpList _ _ _ (⟨_, Op.alloc 45, _, _, _, _⟩ :: _) _ _; refine wl rfl (r_allocA rfl (zero45 _)) ?_; rw [hw3])
    | (go_at_call 19; go_loud (refine (Flush_all w3 p m pv D HD3.out (by omega)).mono ?_); go_loud (rintro e w4 ⟨rfl, hS4⟩; have HS4 := Lib.hid hS4; have hFo : Fr (Foot p m pv) w3 w4 := hS4.choose_spec.2.1; have hnf : ∀ k, w.heap.size ≤ k → ¬ Foot p m pv k := fun k hk hf => (by have := foot_lt H.out hf; omega); have HB4 := Lib.hid (hFo.keep HB.out (hnf _ (Nat.le_refl _))); have HO4 := Lib.hid (hFo.keep HO.out (hnf _ (by have := HSZ.out; omega))); have HZ4 := Lib.hid (hFo.keep HZ.out (hnf _ (by have := HSZ.out; omega))); have q1 := cellOf HO4.out 1 rfl; have q2 := cellOf HO4.out 2 rfl; have q3 := cellOf HO4.out 3 rfl; have q4 := cellOf HO4.out 4 rfl; have q5 := cellOf HO4.out 5 rfl; have HR4 := Lib.hid ((HR.out.non HF3.out).fr hFo HD3.out.apart); clear hS4 hFo hnf))
    | (guard_target =~ wpList _ _ _ (⟨_, Op.load 45 _, _, _, _, _⟩ :: _) _ w4; refine wl rfl (r_load (b := w.heap.size) (i := 0) rfl rfl (rangeAt_of HB4.out 0 (refL dv wv D) (by simp)) Try.underlying45 rfl (by rw [sz45]; rfl)) ?_)
    | (go_at_call 28; go_loud (refine (RFlush_all w4 dv wv D hD HR4.out).mono ?_); go_loud (rintro e w5 ⟨dv5, wv5, rfl, hR5, hF5⟩; have HR5 := Lib.hid hR5; have HF5 := Lib.hid hF5; have HX := Lib.hid (do_fin H.out HF3.out HS4.out hF5 hR5 (hF5.keep HB4.out (fun h => h)) (hF5.keep HZ4.out (fun h => h)) (by have := HSZ.out; omega) rfl rfl (by omega) (by have := HSZ.out; omega) (by have := HSZ.out; omega) (by have := HSZ.out; omega)); clear hR5 hF5))
    | (guard_target =~ wpList _ _ _ (⟨_, Op.store 45 _ _, _, _, _, _⟩ :: _) _ w5; refine wu rfl (r_store (b := w.heap.size) (i := 0) (cs := refL dv5 wv5 D.fl.1) rfl rfl rfl HX.out.1.1 (by rw [sz45]; rfl) (refL_one HR5.out _)) ?_; generalize w5.setCells w.heap.size 0 (refL dv5 wv5 D.fl.1) = W5 at *)
    | (guard_target =~ wpList _ _ _ (⟨_, Op.load 45 _, _, _, _, _⟩ :: _) _ W5; refine wl rfl (r_load (b := w.heap.size) (i := 0) rfl rfl HX.out.1.2.1 Try.underlying45 rfl (by rw [sz45]; rfl)) ?_)
    | (guard_target =~ wpList _ _ _ (⟨_, Op.store 45 _ _, _, _, _, _⟩ :: _) _ W5; refine wu rfl (r_store (b := w2.heap.size) (i := 0) (cs := refL dv5 wv5 D.fl.1) rfl rfl rfl HX.out.1.2.2.1 (by rw [sz45]; rfl) (refL_one HR5.out _)) ?_; generalize W5.setCells w2.heap.size 0 (refL dv5 wv5 D.fl.1) = W6 at *)
    | fail)
  refine bodyPost_ret (results_cell_tmp rfl _ _ w2.heap.size 45 _ (0, 0) _ _ rfl HX.out.1.2.2.2 rfl Try.underlying45 rfl (by rw [sz45]; rfl)) rfl ⟨dv5, wv5, rfl, HX.out.2.1, HX.out.2.2⟩

set_option maxRecDepth 100000 in
set_option maxHeartbeats 1000000 in
theorem Do_restart (w : World) (p m : Nat) (pv dv wv : Value) (D : Dsk) (o : OpS) (ca : Option Addr) (cl cc : Nat) (cs : List UInt8) (hcs : cs.length ≤ 9223372036854775807) (hbs : BytesAt w (.slice ca cl cc) cs) (hch : cs = [] ∨ ∀ k, (Value.slice ca cl cc).ownBlock = some k → ¬ Foot p m pv k) (hD : Dok D) (hl : D.pend.length ≤ 49999) (h : DiskAt w p m pv D) (hr : RefAt w dv wv D) (hk : o.kind = 4) :
    Calls Try.prog 29 #[.pointer (some ⟨p, 0, none⟩), .agg (refL dv wv D).toArray, .agg (opL o (.slice ca cl cc)).toArray] w fun e w' => DoTo w w' p m pv e (D.re cs).1 := by
  obtain ⟨w1, w2, w3, hw1, hw2, hw3, hs1, hs2, hs3, hb, ho, hz, hF3⟩ := box3 w (refL dv wv D).toArray (opL o (.slice ca cl cc)).toArray
  have e0 : w3.cell? ⟨w1.heap.size, 0, none⟩ = some (.int .i64 4) := by rw [← hk]; exact cellOf ho 0 rfl
  have e1 : w3.cell? ⟨w1.heap.size, 1, none⟩ = some (.int .i64 o.sec) := cellOf ho 1 rfl
  have e2 : w3.cell? ⟨w1.heap.size, 2, none⟩ = some (.int .i64 o.at') := cellOf ho 2 rfl
  have e3 : w3.cell? ⟨w1.heap.size, 3, none⟩ = some (.int .u8 o.first.toNat) := cellOf ho 3 rfl
  have e4 : w3.cell? ⟨w1.heap.size, 4, none⟩ = some (.int .u8 o.step.toNat) := cellOf ho 4 rfl
  have e5 : w3.cell? ⟨w1.heap.size, 5, none⟩ = some (.slice ca cl cc) := cellOf ho 5 rfl
  have HBS3 := Lib.hid (hbs.fr hF3 (fun _ _ h => h))
  have HCH := Lib.hid hch
  clear hbs hch
  have hd3 : DiskAt w3 p m pv D := h.fr hF3 (fun _ _ h => h)
  have H := Lib.hid h
  have HR := Lib.hid hr
  have HB := Lib.hid hb
  have HO := Lib.hid ho
  have HZ := Lib.hid hz
  have HF3 := Lib.hid hF3
  have HD3 := Lib.hid hd3
  have HSZ := Lib.hid (And.intro hs1 (And.intro hs2 hs3))
  clear h hr hb ho hz hF3 hd3 hs1 hs2 hs3 hk
  go_enter Try.func29, Try.ntmps29
  go_wp2_with (first
    | (guard_target =~ wpList _ _ _ (⟨_, Op.box 45 _, _, _, _, _⟩ :: _) _ _; refine wl rfl (r_boxA rfl rfl) ?_; rw [hw1])
    | (guard_target =~ wpList _ _ _ (⟨_, Op.box 60 _, _, _, _, _⟩ :: _) _ _; refine wl rfl (r_boxA rfl rfl) ?_; rw [hw2])
    | (guard_target =~ wpList _ _ _ (⟨_, Op.alloc 45, _, _, _, _⟩ :: _) _ _; refine wl rfl (r_allocA rfl (zero45 _)) ?_; rw [hw3])
    | (go_at_call 25; go_loud (refine (Restart_all w3 p m pv D _ cs HD3.out (by omega) HBS3.out (HCH.out.imp id (fun q k hk e => q k hk (.inr (.inl e)))) hcs).mono ?_); go_loud (rintro e w4 ⟨rfl, hS4⟩; have HS4 := Lib.hid hS4; have hFo : Fr (Foot p m pv) w3 w4 := hS4.choose_spec.2.1; have hnf : ∀ k, w.heap.size ≤ k → ¬ Foot p m pv k := fun k hk hf => (by have := foot_lt H.out hf; omega); have HB4 := Lib.hid (hFo.keep HB.out (hnf _ (Nat.le_refl _))); have HO4 := Lib.hid (hFo.keep HO.out (hnf _ (by have := HSZ.out; omega))); have HZ4 := Lib.hid (hFo.keep HZ.out (hnf _ (by have := HSZ.out; omega))); have q1 := cellOf HO4.out 1 rfl; have q2 := cellOf HO4.out 2 rfl; have q3 := cellOf HO4.out 3 rfl; have q4 := cellOf HO4.out 4 rfl; have q5 := cellOf HO4.out 5 rfl; have HBS4 := Lib.hid (HBS3.out.fr0 hFo HCH.out); have HR4 := Lib.hid ((HR.out.non HF3.out).fr hFo HD3.out.apart); clear hS4 hFo hnf))
    | (guard_target =~ wpList _ _ _ (⟨_, Op.load 45 _, _, _, _, _⟩ :: _) _ w4; refine wl rfl (r_load (b := w.heap.size) (i := 0) rfl rfl (rangeAt_of HB4.out 0 (refL dv wv D) (by simp)) Try.underlying45 rfl (by rw [sz45]; rfl)) ?_)
    | (go_at_call 49; go_loud (refine (RRestart_all w4 dv wv D _ _ _ cs hD HR4.out hcs HBS4.out).mono ?_); go_loud (rintro e w5 ⟨dv5, wv5, rfl, hR5, hF5⟩; have HR5 := Lib.hid hR5; have HF5 := Lib.hid hF5; have HX := Lib.hid (do_fin H.out HF3.out HS4.out hF5 hR5 (hF5.keep HB4.out (fun h => h)) (hF5.keep HZ4.out (fun h => h)) (by have := HSZ.out; omega) rfl rfl (by omega) (by have := HSZ.out; omega) (by have := HSZ.out; omega) (by have := HSZ.out; omega)); clear hR5 hF5))
    | (guard_target =~ wpList _ _ _ (⟨_, Op.store 45 _ _, _, _, _, _⟩ :: _) _ w5; refine wu rfl (r_store (b := w.heap.size) (i := 0) (cs := refL dv5 wv5 (D.re cs).1) rfl rfl rfl HX.out.1.1 (by rw [sz45]; rfl) (refL_one HR5.out _)) ?_; generalize w5.setCells w.heap.size 0 (refL dv5 wv5 (D.re cs).1) = W5 at *)
    | (guard_target =~ wpList _ _ _ (⟨_, Op.load 45 _, _, _, _, _⟩ :: _) _ W5; refine wl rfl (r_load (b := w.heap.size) (i := 0) rfl rfl HX.out.1.2.1 Try.underlying45 rfl (by rw [sz45]; rfl)) ?_)
    | (guard_target =~ wpList _ _ _ (⟨_, Op.store 45 _ _, _, _, _, _⟩ :: _) _ W5; refine wu rfl (r_store (b := w2.heap.size) (i := 0) (cs := refL dv5 wv5 (D.re cs).1) rfl rfl rfl HX.out.1.2.2.1 (by rw [sz45]; rfl) (refL_one HR5.out _)) ?_; generalize W5.setCells w2.heap.size 0 (refL dv5 wv5 (D.re cs).1) = W6 at *)
    | fail)
  refine bodyPost_ret (results_cell_tmp rfl _ _ w2.heap.size 45 _ (0, 0) _ _ rfl HX.out.1.2.2.2 rfl Try.underlying45 rfl (by rw [sz45]; rfl)) rfl ⟨dv5, wv5, rfl, HX.out.2.1, HX.out.2.2⟩

set_option maxRecDepth 100000 in
set_option maxHeartbeats 1000000 in
theorem Do_damage (w : World) (p m : Nat) (pv dv wv : Value) (D : Dsk) (o : OpS) (ca : Option Addr) (cl cc : Nat) (hD : Dok D) (hl : D.pend.length ≤ 49999) (h : DiskAt w p m pv D) (hr : RefAt w dv wv D) (hk : o.kind = 6) :
    Calls Try.prog 29 #[.pointer (some ⟨p, 0, none⟩), .agg (refL dv wv D).toArray, .agg (opL o (.slice ca cl cc)).toArray] w fun e w' => DoTo w w' p m pv e (D.da o.sec o.at' o.first).1 := by
  obtain ⟨w1, w2, w3, hw1, hw2, hw3, hs1, hs2, hs3, hb, ho, hz, hF3⟩ := box3 w (refL dv wv D).toArray (opL o (.slice ca cl cc)).toArray
  have e0 : w3.cell? ⟨w1.heap.size, 0, none⟩ = some (.int .i64 6) := by rw [← hk]; exact cellOf ho 0 rfl
  have e1 : w3.cell? ⟨w1.heap.size, 1, none⟩ = some (.int .i64 o.sec) := cellOf ho 1 rfl
  have e2 : w3.cell? ⟨w1.heap.size, 2, none⟩ = some (.int .i64 o.at') := cellOf ho 2 rfl
  have e3 : w3.cell? ⟨w1.heap.size, 3, none⟩ = some (.int .u8 o.first.toNat) := cellOf ho 3 rfl
  have e4 : w3.cell? ⟨w1.heap.size, 4, none⟩ = some (.int .u8 o.step.toNat) := cellOf ho 4 rfl
  have e5 : w3.cell? ⟨w1.heap.size, 5, none⟩ = some (.slice ca cl cc) := cellOf ho 5 rfl
  have hd3 : DiskAt w3 p m pv D := h.fr hF3 (fun _ _ h => h)
  have H := Lib.hid h
  have HR := Lib.hid hr
  have HB := Lib.hid hb
  have HO := Lib.hid ho
  have HZ := Lib.hid hz
  have HF3 := Lib.hid hF3
  have HD3 := Lib.hid hd3
  have HSZ := Lib.hid (And.intro hs1 (And.intro hs2 hs3))
  clear h hr hb ho hz hF3 hd3 hs1 hs2 hs3 hk
  go_enter Try.func29, Try.ntmps29
  go_wp2_with (first
    | (guard_target =~ wpList _ _ _ (⟨_, Op.box 45 _, _, _, _, _⟩ :: _) _ _; refine wl rfl (r_boxA rfl rfl) ?_; rw [hw1])
    | (guard_target =~ wpList _ _ _ (⟨_, Op.box 60 _, _, _, _, _⟩ :: _) _ _; refine wl rfl (r_boxA rfl rfl) ?_; rw [hw2])
    | (guard_target =~ wpList _ _ _ (⟨_, Op.alloc 45, _, _, _, _⟩ :: _) _ _; refine wl rfl (r_allocA rfl (zero45 _)) ?_; rw [hw3])
    | (go_at_call 35; go_loud (refine (Damage_all w3 p m pv D _ _ o.first HD3.out (by omega)).mono ?_); go_loud (rintro e w4 ⟨rfl, hS4⟩; have HS4 := Lib.hid hS4; have hFo : Fr (Foot p m pv) w3 w4 := hS4.choose_spec.2.1; have hnf : ∀ k, w.heap.size ≤ k → ¬ Foot p m pv k := fun k hk hf => (by have := foot_lt H.out hf; omega); have HB4 := Lib.hid (hFo.keep HB.out (hnf _ (Nat.le_refl _))); have HO4 := Lib.hid (hFo.keep HO.out (hnf _ (by have := HSZ.out; omega))); have HZ4 := Lib.hid (hFo.keep HZ.out (hnf _ (by have := HSZ.out; omega))); have q1 := cellOf HO4.out 1 rfl; have q2 := cellOf HO4.out 2 rfl; have q3 := cellOf HO4.out 3 rfl; have q4 := cellOf HO4.out 4 rfl; have q5 := cellOf HO4.out 5 rfl; have HR4 := Lib.hid ((HR.out.non HF3.out).fr hFo HD3.out.apart); clear hS4 hFo hnf))
    | (guard_target =~ wpList _ _ _ (⟨_, Op.load 45 _, _, _, _, _⟩ :: _) _ w4; refine wl rfl (r_load (b := w.heap.size) (i := 0) rfl rfl (rangeAt_of HB4.out 0 (refL dv wv D) (by simp)) Try.underlying45 rfl (by rw [sz45]; rfl)) ?_)
    | (go_at_call 50; go_loud (refine (RDamage_all w4 dv wv D _ _ o.first hD HR4.out).mono ?_); go_loud (rintro e w5 ⟨dv5, wv5, rfl, hR5, hF5⟩; have HR5 := Lib.hid hR5; have HF5 := Lib.hid hF5; have HX := Lib.hid (do_fin H.out HF3.out HS4.out hF5 hR5 (hF5.keep HB4.out (fun h => h)) (hF5.keep HZ4.out (fun h => h)) (by have := HSZ.out; omega) rfl rfl (by omega) (by have := HSZ.out; omega) (by have := HSZ.out; omega) (by have := HSZ.out; omega)); clear hR5 hF5))
    | (guard_target =~ wpList _ _ _ (⟨_, Op.store 45 _ _, _, _, _, _⟩ :: _) _ w5; refine wu rfl (r_store (b := w.heap.size) (i := 0) (cs := refL dv5 wv5 (D.da o.sec o.at' o.first).1) rfl rfl rfl HX.out.1.1 (by rw [sz45]; rfl) (refL_one HR5.out _)) ?_; generalize w5.setCells w.heap.size 0 (refL dv5 wv5 (D.da o.sec o.at' o.first).1) = W5 at *)
    | (guard_target =~ wpList _ _ _ (⟨_, Op.load 45 _, _, _, _, _⟩ :: _) _ W5; refine wl rfl (r_load (b := w.heap.size) (i := 0) rfl rfl HX.out.1.2.1 Try.underlying45 rfl (by rw [sz45]; rfl)) ?_)
    | (guard_target =~ wpList _ _ _ (⟨_, Op.store 45 _ _, _, _, _, _⟩ :: _) _ W5; refine wu rfl (r_store (b := w2.heap.size) (i := 0) (cs := refL dv5 wv5 (D.da o.sec o.at' o.first).1) rfl rfl rfl HX.out.1.2.2.1 (by rw [sz45]; rfl) (refL_one HR5.out _)) ?_; generalize W5.setCells w2.heap.size 0 (refL dv5 wv5 (D.da o.sec o.at' o.first).1) = W6 at *)
    | fail)
  refine bodyPost_ret (results_cell_tmp rfl _ _ w2.heap.size 45 _ (0, 0) _ _ rfl HX.out.1.2.2.2 rfl Try.underlying45 rfl (by rw [sz45]; rfl)) rfl ⟨dv5, wv5, rfl, HX.out.2.1, HX.out.2.2⟩

theorem setk_fin {w w3 w4 : World} {p m : Nat} {pv : Value} {D D' : Dsk} {dv wv : Value} {b0 br fld : Nat} {v : Value} {o0 : Array Value} (h0 : DiskAt w p m pv D) (hF3 : Fr Non w w3) (hS : Step w3 w4 p m pv D') (hR : RefAt w4 dv wv D')
    (hb : w4.heap[b0]? = some (.cells o0 45)) (hr : w4.heap[br]? = some (.cells zref 45)) (hne : b0 ≠ br) (g0 : w.heap.size ≤ b0) (g1 : w.heap.size ≤ br) (g2 : b0 < w3.heap.size ∧ br < w3.heap.size) :
    (w4.setCell ⟨b0, fld, none⟩ v).there br 0 5 ∧ ∀ L : List Value, L.length = 5 → ((w4.setCell ⟨b0, fld, none⟩ v).setCells br 0 L).heap[br]? = some (.cells L.toArray 45) ∧
      Step w ((w4.setCell ⟨b0, fld, none⟩ v).setCells br 0 L) p m pv D' ∧ RefAt ((w4.setCell ⟨b0, fld, none⟩ v).setCells br 0 L) dv wv D' := by
  have hF : Fr (· = b0) w4 (w4.setCell ⟨b0, fld, none⟩ v) := (Fr.refl (· = b0) w4).setCell _ _ (fun _ => rfl)
  have hr' := hF.keep hr (by omega)
  have hA : Apart w4 (fun k => k = b0 ∨ k = br) := by
    rintro k (rfl | rfl) cs
    · rw [hb]; exact ⟨by simp, by simp, by simp⟩
    · rw [hr]; exact ⟨by simp, by simp, by simp⟩
  refine ⟨there45 hr' rfl, fun L hL => ?_⟩
  have x5 : Fr (fun k => k = b0 ∨ k = br) w4 ((w4.setCell ⟨b0, fld, none⟩ v).setCells br 0 L) := Fr.setCells _ (fun _ => .inr rfl) _ _ _ (hF.mono (fun _ _ h => .inl h))
  obtain ⟨pv4, d4, f4, o4⟩ := hS
  refine ⟨put45 hr' rfl hL, ⟨pv4, d4.fr x5 (fun k hk e => ?_), ?_, fun k hk => ?_⟩, hR.fr x5 hA⟩
  · have hlt : k < w.heap.size ∨ w3.heap.size ≤ k := by
      rcases hk with e | e | e
      · exact .inl (by rw [e]; exact h0.plt)
      · exact .inl (by rw [e]; exact h0.mlt)
      · rcases o4 _ e with h | h
        · exact .inl (h0.vlt h).1
        · exact .inr h
    rcases e with rfl | rfl <;> omega
  · exact (((Fr.refl (Foot p m pv) w).trans hF3 (fun _ _ h => h.elim)).trans f4 (fun _ _ h => h)).trans x5 (fun i hi e => by rcases e with e | e <;> (exfalso; omega))
  · rcases o4 k hk with h | h
    · exact .inl h
    · exact .inr (Nat.le_trans hF3.size h)

set_option maxRecDepth 100000 in
set_option maxHeartbeats 1000000 in
theorem Do_fail (w : World) (p m : Nat) (pv dv wv : Value) (D : Dsk) (o : OpS) (ca : Option Addr) (cl cc : Nat) (hD : Dok D) (hl : D.pend.length ≤ 49999) (h : DiskAt w p m pv D) (hr : RefAt w dv wv D) (hk : o.kind = 3) :
    Calls Try.prog 29 #[.pointer (some ⟨p, 0, none⟩), .agg (refL dv wv D).toArray, .agg (opL o (.slice ca cl cc)).toArray] w fun e w' => DoTo w w' p m pv e { D with down := true } := by
  obtain ⟨w1, w2, w3, hw1, hw2, hw3, hs1, hs2, hs3, hb, ho, hz, hF3⟩ := box3 w (refL dv wv D).toArray (opL o (.slice ca cl cc)).toArray
  have e0 : w3.cell? ⟨w1.heap.size, 0, none⟩ = some (.int .i64 3) := by rw [← hk]; exact cellOf ho 0 rfl
  have hd3 : DiskAt w3 p m pv D := h.fr hF3 (fun _ _ h => h)
  have H := Lib.hid h
  have HR := Lib.hid hr
  have HB := Lib.hid hb
  have HO := Lib.hid ho
  have HZ := Lib.hid hz
  have HF3 := Lib.hid hF3
  have HD3 := Lib.hid hd3
  have HSZ := Lib.hid (And.intro hs1 (And.intro hs2 hs3))
  clear h hr hb ho hz hF3 hd3 hs1 hs2 hs3 hk
  go_enter Try.func29, Try.ntmps29
  go_wp2_with (first
    | (guard_target =~ wpList _ _ _ (⟨_, Op.box 45 _, _, _, _, _⟩ :: _) _ _; refine wl rfl (r_boxA rfl rfl) ?_; rw [hw1])
    | (guard_target =~ wpList _ _ _ (⟨_, Op.box 60 _, _, _, _, _⟩ :: _) _ _; refine wl rfl (r_boxA rfl rfl) ?_; rw [hw2])
    | (guard_target =~ wpList _ _ _ (⟨_, Op.alloc 45, _, _, _, _⟩ :: _) _ _; refine wl rfl (r_allocA rfl (zero45 _)) ?_; rw [hw3])
    | fail)
  refine (Fail_c w3 p m pv D HD3.out).mono ?_
  rintro e w4 ⟨rfl, hD4, hF4⟩
  have hnf : ∀ k, w.heap.size ≤ k → ¬ (k = p) := fun k hk hf => (by have := H.out.plt; omega)
  have hB4 := hF4.keep HB.out (hnf _ (Nat.le_refl _))
  have hO4 := hF4.keep HO.out (hnf _ (by have := HSZ.out; omega))
  have hZ4 := hF4.keep HZ.out (hnf _ (by have := HSZ.out; omega))
  have q2 := cellOf hO4 2 rfl
  have q9 := cellOf hB4 3 rfl
  have f9 := frozenOf hB4 3
  have hR4 : RefAt w4 dv wv { D with down := true } := (HR.out.non HF3.out).fr (S := (· = p)) hF4 (fun k hk cs => HD3.out.apart k (.inl hk) cs)
  have hBW : (w4.setCell ⟨w.heap.size, 3, none⟩ (.bool true)).heap[w.heap.size]? = some (.cells (refL dv wv { D with down := true }).toArray 45) := by
    rw [heap_setCell_at hB4]; rfl
  have hK := setk_fin (v := .bool true) (fld := 3) H.out HF3.out (Step.of_p hD4 hF4) hR4 hB4 hZ4 (by have := HSZ.out; omega) (by omega) (by have := HSZ.out; omega) (by have := HSZ.out; omega)
  have HX := Lib.hid (And.intro hK.1 (hK.2 (refL dv wv { D with down := true }) rfl))
  have HRW := Lib.hid (rangeAt_of hBW 0 (refL dv wv { D with down := true }) (by simp))
  have HONE := Lib.hid (refL_one HR.out { D with down := true })
  clear hD4 hF4 hnf hB4 hO4 hZ4 hR4 hBW hK
  go_wp2_with (first
    | (guard_target =~ wpList _ _ _ (⟨_, Op.load 45 _, _, _, _, _⟩ :: _) _ _; refine wl rfl (r_load (b := w.heap.size) (i := 0) rfl rfl HRW.out Try.underlying45 rfl (by rw [sz45]; rfl)) ?_; clear q9 f9; generalize (w4.setCell ⟨w.heap.size, 3, none⟩ (.bool true)) = W5 at *)
    | (guard_target =~ wpList _ _ _ (⟨_, Op.store 45 _ _, _, _, _, _⟩ :: _) _ _; refine wu rfl (r_store (b := w2.heap.size) (i := 0) (cs := refL dv wv { D with down := true }) rfl rfl rfl HX.out.1 (by rw [sz45]; rfl) HONE.out) ?_; generalize W5.setCells w2.heap.size 0 (refL dv wv { D with down := true }) = W6 at *)
    | fail)
  refine bodyPost_ret (results_cell_tmp rfl _ _ w2.heap.size 45 _ (0, 0) _ _ rfl HX.out.2.1 rfl Try.underlying45 rfl (by rw [sz45]; rfl)) rfl ⟨dv, wv, rfl, HX.out.2.2.1, HX.out.2.2.2⟩

theorem builtin_max2 {P : Program} {w : World} {ts : Array TypeId} {ty : TypeId} (x y : Int) (cs : Array Bool) : (builtin .max ts ty cs #[.int .i64 x, .int .i64 y]).run P w = .ok (.value (.int .i64 (max x y))) w := by
  have h : (Builtin.max_ ts ty #[.int .i64 x, .int .i64 y]).run P w = .ok (.int .i64 (max x y)) w := by
    simp [Builtin.max_, Builtin.max2]
    by_cases e : x < y
    · rw [if_pos e]; omega
    · rw [if_neg e]; omega
  simp only [builtin, Sem.run_bind, h, Result.andThen_ok, Sem.run_pure]
theorem setLimit_lim (D : Dsk) (k : Int) : (D.setLimit k).lim = max k (-1) := by
  unfold Dsk.lim Dsk.setLimit
  by_cases h : 0 ≤ k
  · simp [h]; omega
  · simp [h]; omega

set_option maxRecDepth 100000 in
set_option maxHeartbeats 1000000 in
theorem Do_limit (w : World) (p m : Nat) (pv dv wv : Value) (D : Dsk) (o : OpS) (ca : Option Addr) (cl cc : Nat) (hD : Dok D) (hl : D.pend.length ≤ 49999) (h : DiskAt w p m pv D) (hr : RefAt w dv wv D) (hk : o.kind = 5) :
    Calls Try.prog 29 #[.pointer (some ⟨p, 0, none⟩), .agg (refL dv wv D).toArray, .agg (opL o (.slice ca cl cc)).toArray] w fun e w' => DoTo w w' p m pv e (D.setLimit o.at') := by
  obtain ⟨w1, w2, w3, hw1, hw2, hw3, hs1, hs2, hs3, hb, ho, hz, hF3⟩ := box3 w (refL dv wv D).toArray (opL o (.slice ca cl cc)).toArray
  have e0 : w3.cell? ⟨w1.heap.size, 0, none⟩ = some (.int .i64 5) := by rw [← hk]; exact cellOf ho 0 rfl
  have e2 : w3.cell? ⟨w1.heap.size, 2, none⟩ = some (.int .i64 o.at') := cellOf ho 2 rfl
  have hd3 : DiskAt w3 p m pv D := h.fr hF3 (fun _ _ h => h)
  have H := Lib.hid h
  have HR := Lib.hid hr
  have HB := Lib.hid hb
  have HO := Lib.hid ho
  have HZ := Lib.hid hz
  have HF3 := Lib.hid hF3
  have HD3 := Lib.hid hd3
  have HSZ := Lib.hid (And.intro hs1 (And.intro hs2 hs3))
  clear h hr hb ho hz hF3 hd3 hs1 hs2 hs3 hk
  go_enter Try.func29, Try.ntmps29
  go_wp2_with (first
    | (guard_target =~ wpList _ _ _ (⟨_, Op.box 45 _, _, _, _, _⟩ :: _) _ _; refine wl rfl (r_boxA rfl rfl) ?_; rw [hw1])
    | (guard_target =~ wpList _ _ _ (⟨_, Op.box 60 _, _, _, _, _⟩ :: _) _ _; refine wl rfl (r_boxA rfl rfl) ?_; rw [hw2])
    | (guard_target =~ wpList _ _ _ (⟨_, Op.alloc 45, _, _, _, _⟩ :: _) _ _; refine wl rfl (r_allocA rfl (zero45 _)) ?_; rw [hw3])
    | fail)
  refine (SetLimit_c w3 p m pv D _ HD3.out).mono ?_
  rintro e w4 ⟨rfl, hD4, hF4⟩
  have hnf : ∀ k, w.heap.size ≤ k → ¬ (k = p) := fun k hk hf => (by have := H.out.plt; omega)
  have hB4 := hF4.keep HB.out (hnf _ (Nat.le_refl _))
  have hO4 := hF4.keep HO.out (hnf _ (by have := HSZ.out; omega))
  have hZ4 := hF4.keep HZ.out (hnf _ (by have := HSZ.out; omega))
  have q2 := cellOf hO4 2 rfl
  have q9 := cellOf hB4 2 rfl
  have f9 := frozenOf hB4 2
  have hR4 : RefAt w4 dv wv (D.setLimit o.at') := (HR.out.non HF3.out).fr (S := (· = p)) hF4 (fun k hk cs => HD3.out.apart k (.inl hk) cs)
  have hBW : (w4.setCell ⟨w.heap.size, 2, none⟩ (.int .i64 (max o.at' (-1)))).heap[w.heap.size]? = some (.cells (refL dv wv (D.setLimit o.at')).toArray 45) := by
    rw [heap_setCell_at hB4]; rw [← setLimit_lim D]; rfl
  have hK := setk_fin (v := .int .i64 (max o.at' (-1))) (fld := 2) H.out HF3.out (Step.of_p hD4 hF4) hR4 hB4 hZ4 (by have := HSZ.out; omega) (by omega) (by have := HSZ.out; omega) (by have := HSZ.out; omega)
  have HX := Lib.hid (And.intro hK.1 (hK.2 (refL dv wv (D.setLimit o.at')) rfl))
  have HRW := Lib.hid (rangeAt_of hBW 0 (refL dv wv (D.setLimit o.at')) (by simp))
  have HONE := Lib.hid (refL_one HR.out (D.setLimit o.at'))
  clear hD4 hF4 hnf hB4 hO4 hZ4 hR4 hBW hK
  go_wp2_with (first
    | (guard_target =~ wpList _ _ _ (⟨_, Op.call { callee := Callee.builtin Builtin.max, args := _, argTypes := _ }, _, _, _, _⟩ :: _) _ _; refine wl rfl (r_builtin (vs := [.int .i64 o.at', .int .i64 (-1)]) rfl rfl (builtin_max2 _ _)) ?_)
    | (guard_target =~ wpList _ _ _ (⟨_, Op.load 45 _, _, _, _, _⟩ :: _) _ _; refine wl rfl (r_load (b := w.heap.size) (i := 0) rfl rfl HRW.out Try.underlying45 rfl (by rw [sz45]; rfl)) ?_; clear q9 f9; generalize (w4.setCell ⟨w.heap.size, 2, none⟩ (.int .i64 (max o.at' (-1)))) = W5 at *)
    | (guard_target =~ wpList _ _ _ (⟨_, Op.store 45 _ _, _, _, _, _⟩ :: _) _ _; refine wu rfl (r_store (b := w2.heap.size) (i := 0) (cs := refL dv wv (D.setLimit o.at')) rfl rfl rfl HX.out.1 (by rw [sz45]; rfl) HONE.out) ?_; generalize W5.setCells w2.heap.size 0 (refL dv wv (D.setLimit o.at')) = W6 at *)
    | fail)
  refine bodyPost_ret (results_cell_tmp rfl _ _ w2.heap.size 45 _ (0, 0) _ _ rfl HX.out.2.1 rfl Try.underlying45 rfl (by rw [sz45]; rfl)) rfl ⟨dv, wv, rfl, HX.out.2.2.1, HX.out.2.2.2⟩

end Go.Proofs.Yticgkbpmaakkiaa
