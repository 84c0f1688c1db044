/-
  slices.Sorted(maps.Keys(m)) over a map with int keys.
  Sparse: what the iterator hands over; the words by which a loop's body keeps what is not its own.
-/
import Derived.Test.YticgkbpmaakkiaaDm6q
import Derived.Test.YticgkbpmaakkiaaDm7q
import Derived.Test.YticgkbpmaakkiaaMitq
import Derived.Shelf.SlIterI.Sorted
import Derived.Shelf.Sort.Plain
import Derived.Shelf.Slices.In.SortNone
import Derived.Lib.OwnBridge

namespace Go.Proofs.Yticgkbpmaakkiaa
open Go.RowKit Go.Maps Go.Sort Go.Shelf

attribute [local go_sem] Oper.semAt_some

def sortedZ_ren : Go.Shelf.Ren := ⟨fun | 6 => 55 | 8 => 63 | 9 => 64 | 11 => 67 | n => n, fun | 0 => 0 | 24 => 68 | 26 => 3 | 28 => 105 | 33 => 33 | n => n, fun | n => n⟩
theorem info3b : (Try.prog.info? 3).map (fun i => (i.zero, i.size, i.bytes)) = some (some (.int .i64 0), 1, 8) := by kernel_rfl
theorem sortedZ : Go.Proofs.SlLaysZI.n6 Try.prog sortedZ_ren := {
  mixed := by kernel_rfl
  f6 := ⟨Try.f55.name, by decide, Try.func55.trans (congrArg some (by kernel_rfl))⟩
  f8 := ⟨Try.f63.name, by decide, Try.func63.trans (congrArg some (by kernel_rfl))⟩
  f11 := ⟨Try.f67.name, by decide, Try.func67.trans (congrArg some (by kernel_rfl))⟩
  t0 := Try.underlying0
  a0 := Try.isAgg0
  z0 := Try.sizeOf0
  v0 := Try.zeroValue0
  t24 := Try.underlying68
  a24 := Try.isAgg68
  z24 := Try.sizeOf68
  v24 := Try.zeroValue68
  t26 := Try.underlying3
  a26 := Try.isAgg3
  z26 := Try.sizeOf3
  v26 := Try.zeroValue3
  t28 := Try.underlying105
  a28 := Try.isAgg105
  z28 := Try.sizeOf105
  v28 := Try.zeroValue105
  i26 := info3b }
theorem sorts64 (m : Nat) : AnyZI.SortsIn Try.prog sortedZ_ren Fence.wide m :=
  ⟨fun blk off cap ss W hH hblk hsz => callsIn_wide.2 (Any.slices_Sort_int sortInts blk off cap ss W hH hblk hsz),
   fun p cap W => callsIn_wide.2 (Any.slices_Sort_int_none sortInts p cap W)⟩

theorem Ranging.walks {K V : Type} {enc : K → Value} {venc : V → Value} {l done : List (K × V)} {w w' : World} {r m : Nat} (h : Ranging w r m enc venc l done) (hk : KeepsWalks w w') : Ranging w' r m enc venc l done := by
  obtain ⟨L, es, clock, since, c0, seen, hr, hm, rest⟩ := h
  exact ⟨L, es, clock, since, c0, seen, hk.same r _ hr rfl, hk.same m _ hm rfl, rest⟩
theorem grownBy_fr {w w' : World} {r : Nat} (h : Fr (· = r) w w') : w.grownBy w' (some r) :=
  ⟨h.os, h.tape, h.output, h.size, fun k hk hne => h.block k hk (fun e => hne (by rw [e]))⟩
theorem grownBy_non {w w' : World} (h : Fr Non w w') : w.grownBy w' none := ⟨h.os, h.tape, h.output, h.size, fun k hk _ => h.block k hk (fun h => h)⟩

set_option maxRecDepth 100000 in
set_option maxHeartbeats 1000000 in
theorem keys_in (n l Bm m : Nat) (ml : List (Int × Bool)) (J : List Int → World → Prop)
    (hY : ∀ pre x W, J pre W → pre.length < ml.length → YieldAt Fence.wide n Try.prog l #[.int .i64 x] W fun e W' => e = .returned (.bool true) ∧ J (pre ++ [x]) W' ∧ KeepsWalks W W')
    (W : World) (hJ : AbidesFrom W.heap.size J) (hB : W.cell? ⟨Bm, 0, none⟩ = some (.map (some m))) (hm : MapAt W m intK Value.bool ml) (h0 : J [] W) :
    CallsIn Fence.wide (n + 1) Try.prog 65 #[.func (.yield l) #[] #[], .pointer (some ⟨Bm, 0, none⟩)] W fun e W' => (∃ v, e = .returned v) ∧ ∃ ss : List Int, ss.Perm (ml.map (·.1)) ∧ J ss W' := by
  obtain ⟨w1, hr, hR, hF1⟩ := ranging_start hm Try.underlying103
  have HR := Lib.hid hr
  have HRG := Lib.hid hR
  have HF1 := Lib.hid hF1
  have HJ := Lib.hid hJ
  have HY := Lib.hid hY
  have H0 := Lib.hid h0
  clear hr hR hF1 hJ hY h0 hm
  refine callsIn_of_wp Try.func65 rfl trivial ?_ rfl
  simp only [Try.ntmps65, List.size_toArray, List.length_cons, List.length_nil, Nat.reduceAdd, Nat.reduceSub, Array.replicate_succ, Array.replicate_zero, List.push_toArray, List.append_toArray, List.nil_append, List.cons_append]
  gi_wp2_with (first
    | (guard_target =~ wpListIn _ _ _ _ _ (⟨_, Op.range _ _, _, _, _, _⟩ :: _) _ _; refine wlIn rfl rfl (r_range rfl rfl HR.out) ?_; simp only [Act.put, List.setIfInBounds_toArray, List.set_cons_zero, List.set_cons_succ])
    | fail)
  gi_loopw [3] (fun _ wr => ∃ done : List (Int × Bool), Ranging wr W.heap.size m intK Value.bool ml done ∧ J (done.map (·.1)) wr) (fun _ wr => ml.length - seenAt wr W.heap.size)
  case atStart => exact ⟨[], HRG.out, HJ.out [] W w1 none H0.out (grownBy_non HF1.out) (fun r e => by cases e)⟩
  case round =>
    obtain ⟨done, hR, hJs⟩ := hrel
    have hsn := hR.seenAt
    rcases ranging_next (P := Try.prog) hR 0 with ⟨hp, hr⟩ | ⟨x, w2, hx, hr, he, hR2, hF2, hlt⟩
    · have HR2 := Lib.hid hr
      have HP := Lib.hid (And.intro hp hJs)
      clear hr hp hJs hR hsn
      gi_wp2_with (first
        | (guard_target =~ wpListIn _ _ _ _ _ (⟨_, Op.next _ _, _, _, _, _⟩ :: _) _ _; refine wlIn rfl rfl (r_next (it := .tmp 5) (b := false) rfl rfl rfl HR2.out) ?_; simp only [Act.put, List.setIfInBounds_toArray, List.set_cons_zero, List.set_cons_succ])
        | fail)
      go_end0
      exact ⟨⟨_, rfl⟩, done.map (·.1), HP.out.1.map _, HP.out.2⟩
    · have hiter : ∃ o : Obj, wr.heap[W.heap.size]? = some o ∧ o.isWalk = true := by
        obtain ⟨L, es, clock, since, c0, seen, hr, _⟩ := hR
        exact ⟨_, hr, rfl⟩
      have hJ2 : J (done.map (·.1)) w2 := HJ.out _ wr w2 (some W.heap.size) hJs (grownBy_fr hF2) (fun r e => by cases e; exact ⟨Nat.le_refl _, hiter⟩)
      obtain ⟨fn, tmps, assign, body, hy, hRd⟩ := HY.out (done.map (·.1)) x.1 w2 hJ2 (by simpa using hlt)
      have HR2 := Lib.hid hr
      have HE := Lib.hid he
      have HX := Lib.hid (And.intro hR2 (And.intro hlt hsn))
      have HRD := Lib.hid hRd
      have HYY := Lib.hid (show (Instr.yield l #[intK x.1]).run Try.prog w2 = _ from hy)
      clear hr he hR2 hlt hsn hJ2 hJs hR hiter hRd hF2 hx hy
      have hy := HYY.out
      gi_wp2_with (first
        | (guard_target =~ wpListIn _ _ _ _ _ (⟨_, Op.next _ _, _, _, _, _⟩ :: _) _ _; refine wlIn rfl rfl (r_next (it := .tmp 5) (b := false) rfl rfl rfl HR2.out) ?_; simp only [Act.put, List.setIfInBounds_toArray, List.set_cons_zero, List.set_cons_succ])
        | (guard_target =~ wpListIn _ _ _ _ _ (⟨_, Op.entry _, _, _, _, _⟩ :: _) _ _; refine wlIn rfl rfl (r_entry (it := .tmp 5) rfl rfl HE.out) ?_; simp only [Act.put, List.setIfInBounds_toArray, List.set_cons_zero, List.set_cons_succ])
        | fail)
      refine HRD.out.mono ?_
      rintro e W3 ⟨rfl, hJ3, hk3⟩
      have HJ3 := Lib.hid hJ3
      have HR3 := Lib.hid (HX.out.1.walks hk3)
      clear hJ3 hk3
      gi_wp2
      go_roundw
      case rel => exact ⟨done ++ [x], HR3.out, by rw [List.map_append]; exact HJ3.out⟩
      case measure =>
        have h1 := HR3.out.seenAt
        have h2 := HX.out
        simp at h1
        omega

theorem keys_gives (n : Nat) (Bm m : Nat) (ml : List (Int × Bool)) (w : World) (hBm : Bm < w.heap.size) (hB : w.cell? ⟨Bm, 0, none⟩ = some (.map (some m))) (hm : MapAt w m intK Value.bool ml) :
    SeqGives Fence.wide (n + 1) Try.prog 65 #[.pointer (some ⟨Bm, 0, none⟩)] encZ (fun ss => ss.Perm (ml.map (·.1))) ml.length w := fun l J W hW hJ hY h0 => by
  have hF : Fr Non w W := Fr.of_new hW _
  exact keys_in n l Bm m ml J hY W hJ ((hW.cell (p := ⟨Bm, 0, none⟩) hBm).trans hB) (hm.fr hF (fun h => h)) h0

def intE (x : Int) : List Value := [.int .i64 x]
theorem intE_len (x : Int) : (intE x).length = 1 := rfl
theorem intE_one (x : Int) : ∀ v ∈ intE x, v.oneCell' = true := by intro v hv; rw [List.mem_singleton.1 hv]; rfl
theorem intE_flat : ∀ l : List Int, l.flatMap intE = l.map (Value.int .i64)
  | [] => rfl
  | x :: l => by rw [List.flatMap_cons, List.map_cons, intE_flat l]; rfl
theorem elem3 : ElemOk Try.prog 3 1 8 intE := ⟨⟨_, info3b, by simp [Value.cells]⟩, by omega, intE_len, intE_one⟩
def srtI (l : List Int) : List Int := l.mergeSort fun x y => decide (x ≤ y)

set_option maxRecDepth 100000 in
theorem Keys_c (w : World) (m : Option Nat) :
    Calls Try.prog 56 #[.map m] w fun e w' => e = .returned (.func (.func 65) #[] #[.pointer (some ⟨w.heap.size, 0, none⟩)]) ∧ w' = w.alloc (.cells #[.map m] 103) := by
  go_enter Try.func56, Try.ntmps56
  go_wp2
  go_ret
  exact ⟨rfl, rfl⟩

/-- What slices.Sorted hands back of the keys. -/
theorem Sorted_c (w : World) (Bm m : Nat) (ml : List (Int × Bool)) (hl : ml.length ≤ 1000000) (hBm : Bm < w.heap.size) (hB : w.cell? ⟨Bm, 0, none⟩ = some (.map (some m))) (hm : MapAt w m intK Value.bool ml) :
    Calls Try.prog 55 #[.func (.func 65) #[] #[.pointer (some ⟨Bm, 0, none⟩)]] w fun e w' => ∃ v ss, e = .returned v ∧ ss.Perm (ml.map (·.1)) ∧ Own w' 3 1 intE v (srtI ss) ∧ Fr Non w w' ∧ ∀ b, v.ownBlock = some b → w.heap.size ≤ b := by
  refine (callsIn_wide (n := 5)).1 ?_
  have hseq := keys_gives 1 Bm m ml w hBm hB hm
  have cS := AnyZI.sorted_in sortedZ Fence.wide 5 trivial trivial trivial trivial rfl (by omega) (sorts64 _) (enters_of Try.func64 (by kernel_rfl) rfl) 65 #[.pointer (some ⟨Bm, 0, none⟩)] trivial (enters_of Try.func65 (by kernel_rfl) rfl) _ _ (by unfold maxLen; omega) (by omega) w hseq
  change CallsIn _ _ Try.prog 55 _ _ _ at cS
  refine cS.mono ?_
  rintro e w' ⟨v, ss, rfl, hp, ho, -, hb⟩
  refine ⟨v, ss, rfl, hp, ?_, Fr.of_new hb _, fun b hbb => (World.ownsRow.lt ho b hbb).1⟩
  unfold Own
  have hlen : (srtI ss).length = ss.length := (List.mergeSort_perm ss _).length_eq
  rw [intE_flat, hlen]
  exact ownsRow_base ho (Nat.zero_le _)
end Go.Proofs.Yticgkbpmaakkiaa

namespace Go.Proofs.Yticgkbpmaakkiaa
open Go.RowKit Go.Shelf

attribute [local go_sem] Oper.semAt_some

/-! ### a body's word: of cells and maps only those in S may turn -/
structure KpS (S : Nat → Prop) (a b : World) : Prop where
  os : b.os = a.os
  tape : b.tape = a.tape
  output : b.output = a.output
  size : a.heap.size ≤ b.heap.size
  same : ∀ (k : Nat) (o : Obj), a.heap[k]? = some o → ¬ S k → (o.isCells = true ∨ o.isWalk = true) → b.heap[k]? = some o
theorem kpS_t {S : Nat → Prop} {A B C : World} (h : KpS S A B) (k : KpS S B C) : KpS S A C :=
  ⟨k.os.trans h.os, k.tape.trans h.tape, k.output.trans h.output, Nat.le_trans h.size k.size, fun i o hi hn ho => k.same i o (h.same i o hi hn ho) hn ho⟩
theorem kpS_b {S : Nat → Prop} {w : World} (W : World) (l : Nat) (o o' : Obj) (_ : w.heap.size ≤ l) (h : W.heap[l]? = some o) (hc : o.isCells = false) (hw : o.isWalk = false) : KpS S W (W.putObj l o') :=
  ⟨rfl, rfl, rfl, by simp, fun k o2 hk _ ho => by
    have : k ≠ l := by rintro rfl; rw [h] at hk; cases hk; rcases ho with ho | ho; rw [hc] at ho; cases ho; rw [hw] at ho; cases ho
    rw [World.putObj_heap_other this]; exact hk⟩
theorem KpS.refl (S : Nat → Prop) (w : World) : KpS S w w := ⟨rfl, rfl, rfl, Nat.le_refl _, fun _ _ h _ _ => h⟩
theorem KpS.of_fr {S : Nat → Prop} {a b : World} (h : Fr S a b) : KpS S a b := ⟨h.os, h.tape, h.output, h.size, fun k o hk hn _ => h.keep hk hn⟩
/-- .. as a frame: what has not turned has not turned. -/
theorem KpS.fr {S : Nat → Prop} {a b : World} (h : KpS S a b) : Fr (fun k => S k ∨ ∃ o, a.heap[k]? = some o ∧ o.isCells = false ∧ o.isWalk = false) a b :=
  ⟨h.os, h.tape, h.output, h.size, fun k hk hn => by
    obtain ⟨o, ho⟩ : ∃ o, a.heap[k]? = some o := ⟨_, Array.getElem?_eq_getElem hk⟩
    have h1 : ¬ S k := fun hs => hn (.inl hs)
    by_cases hc : o.isCells = true
    · rw [ho]; exact h.same k o ho h1 (.inl hc)
    · by_cases hw : o.isWalk = true
      · rw [ho]; exact h.same k o ho h1 (.inr hw)
      · exact absurd (.inr ⟨o, ho, by simpa using hc, by simpa using hw⟩) hn⟩
theorem Own.kp {α : Type} {S : Nat → Prop} {w w' : World} (h : KpS S w w') {e : TypeId} {k : Nat} {enc : α → List Value} {v : Value} {l : List α} (ho : Own w e k enc v l) (hn : ∀ b, v.ownBlock = some b → ¬ S b) : Own w' e k enc v l := by
  refine ho.fr h.fr (fun b hb hs => ?_)
  rcases hs with hs | ⟨o, h1, h2, _⟩
  · exact hn b hb hs
  · obtain ⟨cs, hc⟩ := ho.typed hb
    rw [hc] at h1; cases h1; cases h2
theorem DiskAt.kp {S : Nat → Prop} {w w' : World} (h : KpS S w w') {p m : Nat} {pv : Value} {D : Dsk} (hd : DiskAt w p m pv D) (hn : ∀ k, Foot p m pv k → ¬ S k) : DiskAt w' p m pv D := by
  refine hd.fr h.fr (fun k hk hs => ?_)
  rcases hs with hs | ⟨o, h1, h2, h3⟩
  · exact hn k hk hs
  · rcases hk with rfl | rfl | hk
    · rw [hd.hp] at h1; cases h1; cases h2
    · obtain ⟨l, hl, _⟩ := hd.hm
      obtain ⟨es, c, hb, _⟩ := hl.ex
      rw [hb] at h1; cases h1; cases h3
    · obtain ⟨cs, hc⟩ := Own.typed (show Own w 82 257 wcells pv D.pend from hd.hv) hk
      rw [hc] at h1; cases h1; cases h2
theorem KpS.cells {S : Nat → Prop} {w w' : World} (h : KpS S w w') {b : Nat} {cs : Array Value} {t : TypeId} (hb : w.heap[b]? = some (.cells cs t)) (hn : ¬ S b) : w'.heap[b]? = some (.cells cs t) := h.same b _ hb hn (.inl rfl)

/-! ### what comes -/
theorem sorted_ext : ∀ (l m : List Int), l.Pairwise (· < ·) → m.Pairwise (· < ·) → (∀ x, x ∈ l ↔ x ∈ m) → l = m
  | [], [], _, _, _ => rfl
  | [], b :: m, _, _, h => absurd ((h b).2 (List.mem_cons_self ..)) (by simp)
  | a :: l, [], _, _, h => absurd ((h a).1 (List.mem_cons_self ..)) (by simp)
  | a :: l, b :: m, h1, h2, h => by
    obtain ⟨p1, p2⟩ := List.pairwise_cons.1 h1
    obtain ⟨q1, q2⟩ := List.pairwise_cons.1 h2
    have hab : a = b := by
      rcases List.mem_cons.1 ((h a).1 (List.mem_cons_self ..)) with e | e
      · exact e
      · rcases List.mem_cons.1 ((h b).2 (List.mem_cons_self ..)) with e2 | e2
        · exact e2.symm
        · have := q1 a e; have := p1 b e2; omega
    subst hab
    congr 1
    refine sorted_ext l m p2 q2 (fun x => ⟨fun hx => ?_, fun hx => ?_⟩)
    · rcases List.mem_cons.1 ((h x).1 (List.mem_cons_of_mem _ hx)) with e | e
      · have := p1 x hx; omega
      · exact e
    · rcases List.mem_cons.1 ((h x).2 (List.mem_cons_of_mem _ hx)) with e | e
      · have := q1 x hx; omega
      · exact e
theorem srtI_perm (l : List Int) : (srtI l).Perm l := List.mergeSort_perm l _
theorem srtI_lt {l : List Int} (h : l.Nodup) : (srtI l).Pairwise (· < ·) := by
  have h1 := List.pairwise_mergeSort (le := fun x y : Int => decide (x ≤ y)) (fun a b c h1 h2 => by simp at *; omega) (fun a b => by simp; omega) l
  have h2 : (srtI l).Nodup := (srtI_perm l).nodup_iff.2 h
  refine (h1.and (List.nodup_iff_pairwise_ne.1 h2)).imp (fun hxy => ?_)
  have := hxy.1; have := hxy.2; simp at *; omega

def vis (D : Dsk) (k : Int) : Bool := decide (D.see k ≠ zeroSec)
/-- The sectors that are not zero; none while the power is off. -/
def sparseL (D : Dsk) : List Int := if D.down = true then [] else ((List.range D.n.toNat).map fun i : Nat => (i : Int)).filter (vis D)
theorem sparseL_keys {D : Dsk} (hD : Dok D) (hC : Clean D) (hdn : D.down = false) {ks : List Int} (hn : ks.Nodup) (hk : ∀ z, z ∈ ks ↔ (D.dur z).isSome = true ∨ ∃ x ∈ D.pend, x.1 = z) : (srtI ks).filter (vis D) = sparseL D := by
  unfold sparseL
  rw [hdn, if_neg (by simp)]
  refine sorted_ext _ _ ((srtI_lt hn).filter _) (List.Pairwise.filter _ ?_) (fun z => ?_)
  · rw [List.pairwise_map]
    exact List.pairwise_lt_range.imp (fun h => by omega)
  · rw [List.mem_filter, List.mem_filter]
    refine and_congr_left fun hv => ?_
    rw [(srtI_perm ks).mem_iff, hk, List.mem_map]
    constructor
    · intro h
      have hr : 0 ≤ z ∧ z < D.n := by
        rcases h with h | ⟨x, hx, rfl⟩
        · obtain ⟨s, hs⟩ := Option.isSome_iff_exists.1 h
          exact (hC z s hs).2
        · exact hD.sec x hx
      exact ⟨z.toNat, List.mem_range.2 (by omega), by omega⟩
    · rintro ⟨i, hi, rfl⟩
      refine Classical.byContradiction fun hne => ?_
      have h1 : D.dur (i : Int) = none := by
        cases h : D.dur (i : Int) with
        | none => rfl
        | some s => exact absurd (.inl (by rw [h]; rfl)) hne
      have h2 : D.see (i : Int) = zeroSec := by
        unfold Dsk.see
        rw [seen_none _ _ _ (fun x hx e => hne (.inr ⟨x, hx, e⟩))]
        unfold Dsk.at
        rw [h1]; rfl
      unfold vis at hv
      exact absurd h2 (by simpa using hv)
end Go.Proofs.Yticgkbpmaakkiaa
