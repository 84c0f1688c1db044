/-
  DiskSparse: the walk.
-/
import Derived.Test.YticgkbpmaakkiaaDmBq
namespace Go.Proofs.Yticgkbpmaakkiaa
open Go.RowKit Go.Shelf

attribute [local go_sem] Oper.semAt_some
set_option linter.unusedVariables false

section
variable {P : Program} {α : Type} {a : Act} {w : World} {Q : Exit → Act → World → Prop}
/-- The loop, whose body may turn what S says. -/
theorem wp_rangeK {g : Operand} {ps : Array Tmp} {assign body : Code} {gf : Nat} {lb : Array Value} (hg : a.eval g = .func (.func gf) #[] lb)
    (eg : ∀ args w, (callFunc gf args).run P w = .ok (.enter gf args) w) {encs : α → Array Value} {S Sp : List α → Prop} {N : Nat} (Z : Nat → Prop) (hseq : SeqStopsK Fence.wide 2 P gf lb encs (KpS Z) S Sp N w) (hps : ∀ x, (encs x).size = ps.size)
    (I : List α → World → Prop) (Ix : Code → List α → World → Prop) (hI : OwnFrom w.heap.size I) (hIx : ∀ c, OwnFrom w.heap.size (Ix c)) (h0 : I [] w) (Ax : α → Act → World → Prop) (hAx : ∀ x a', OwnFrom w.heap.size (fun (_ : Unit) W => Ax x a' W))
    (hassign : ∀ (l : Nat) (pre : List α) (x : α) (W : World) (K : Act → World → Prop), I pre W → (∀ a' W', KeepsFrom w.heap.size W W' → KpS Z W W' → I pre W' → Ax x a' W' → K a' W') →
      assign.wpIn (Fence.wide.inRound l) 1 P (Exit.then K (fun _ _ _ => False)) { tmps := (ps.zip (encs x)).foldl (fun t (p, v) => t.setIfInBounds p v) a.tmps, defers := [] } W)
    (hbody : ∀ (l : Nat) (pre : List α) (x : α) (a' : Act) (W : World), w.heap.size ≤ l → (∃ r, W.heap[l]? = some (.loop r)) → I pre W → Ax x a' W → pre.length < N → body.wpIn (Fence.wide.inRound l) 1 P (ownPostG w.heap.size (KpS Z) I Ix (pre ++ [x]) W) a' W)
    (hdone : ∀ (D : Nat) (xs : List α) (W : World), w.heap.size ≤ D → S xs → I xs W → W.heap[D]? = some (.deferred (some [])) → Q .normal { a with defers := { target := .collected D, args := #[] } :: a.defers } W)
    (hstop : ∀ (D : Nat) (c : Code) (pre : List α) (W : World), w.heap.size ≤ D → Sp pre → Ix c pre W → W.heap[D]? = some (.deferred (some [])) → c.wp P Q { a with defers := { target := .collected D, args := #[] } :: a.defers } W) :
    (Code.rangeFunc g ps assign body).wp P Q a w :=
  (wpIn_wide (n := 3)).1 (wpIn_rangeFunc_ownH (F := Fence.wide) (n := 3) rfl (by omega) hg trivial eg hseq kpS_t kpS_b (Below.refl _ _) hps I Ix hI hIx h0 Ax hAx hassign hbody hdone
    (fun D c pre W hD hs hx hk => wpIn_wide.2 (hstop D c pre W hD hs hx hk)))
end

theorem zero68 (w : World) : (zeroValue 68).run Try.prog w = .ok (.slice none 0 0) w := (zero_of_info (show (Try.prog.info? 68).map (fun i => (i.zero, i.size)) = some (some (.slice none 0 0), 1) from by kernel_rfl)).1 w

theorem take_snoc {α : Type} {l pre : List α} {x : α} (hp : pre = l.take pre.length) (hx : l[pre.length]? = some x) : pre ++ [x] = l.take (pre ++ [x]).length := by
  rw [List.length_append, List.length_singleton, List.take_add_one, hx, ← hp]; rfl
theorem take_snoc_ne {α : Type} {l pre : List α} {x z : α} (hz : l[pre.length]? = some z) (hne : x ≠ z) : ¬ ∃ k, k ≤ l.length ∧ pre ++ [x] = l.take k := by
  rintro ⟨k, hk, h⟩
  have h1 : k = pre.length + 1 := by
    have := congrArg List.length h
    rw [List.length_append, List.length_singleton, List.length_take] at this; omega
  subst h1
  rw [List.take_add_one, hz] at h
  have := congrArg List.getLast? h
  simp at this
  exact hne this

set_option maxRecDepth 100000 in
set_option maxHeartbeats 4000000 in
theorem Sparse_small (w : World) (s : Nat) (hs : s < 256) (a : Option Addr) (cap : Nat) (os : List OpX) (stop : Int) (h1 : os.length ≤ 40) (ho : OpsAt w a os) :
    Calls Try.prog 9 #[.int .u8 s, .slice a os.length cap, .int .i64 stop] w fun e w' => e = .returned (.bool true) ∧ Fr Non w w' := by
  have hb5 := ((Fr.refl Non _).alloc (.cells #[.bool false] 4)).keep (heap_alloc_new w (.cells #[.int .i64 stop] 3)) (fun h => h)
  have hb6 := heap_alloc_new (w.alloc (.cells #[.int .i64 stop] 3)) (.cells #[.bool false] 4)
  rw [World.size_alloc] at hb6
  have HF0 : Hid (Fr Non w ((w.alloc (.cells #[.int .i64 stop] 3)).alloc (.cells #[.bool false] 4))) := ((Fr.refl _ w).alloc _).alloc _
  obtain ⟨w1, hw1⟩ : ∃ w1, (w.alloc (.cells #[.int .i64 stop] 3)).alloc (.cells #[.bool false] 4) = w1 := ⟨_, rfl⟩
  rw [hw1] at hb5 hb6 HF0
  have HB5 := Lib.hid hb5
  have HB6 := Lib.hid hb6
  have e1 : decide (os.length ≤ 40) = true := decide_eq_true h1
  have HO := Lib.hid (ho.non HF0.out)
  have HL := Lib.hid h1
  clear hb5 hb6 ho h1
  refine calls_marks Try.func9 rfl ?_
  simp only [Try.ntmps9, List.size_toArray, List.length_cons, List.length_nil, Nat.reduceAdd, Nat.reduceSub, Array.replicate_succ, Array.replicate_zero, List.push_toArray, List.append_toArray, List.nil_append, List.cons_append]
  go_wp2_with (first
    | (guard_target =~ wpList _ _ _ (⟨_, Op.box 3 _, _, _, _, _⟩ :: _) _ _; refine wl rfl (r_box rfl) ?_; simp only [Act.put, List.setIfInBounds_toArray, List.set_cons_zero, List.set_cons_succ])
    | (guard_target =~ wpList _ _ _ (⟨_, Op.alloc 4, _, _, _, _⟩ :: _) _ _; refine wl rfl (r_alloc (z := .bool false) rfl (zero4 _)) ?_; simp only [Act.put, List.setIfInBounds_toArray, List.set_cons_zero, List.set_cons_succ]; simp only [Value.cells]; rw [hw1])
    | (go_at_call 11; refine (known_c w1).mono ?_; rintro e w2 ⟨rfl, hF2⟩; have HF2 := Lib.hid hF2; clear hF2)
    | (go_at_call 22; refine (small_c _ _ _ _).mono ?_; rintro e wx ⟨rfl, rfl⟩)
    | fail)
  obtain ⟨n, hn⟩ : ∃ n : Nat, (1 + (s : Int) % 12) = (n : Int) := ⟨1 + s % 12, by omega⟩
  have hn1 : 1 ≤ (n : Int) := by omega
  have hn2 : (n : Int) ≤ 12 := by omega
  rw [hn]
  clear hn
  refine (run_clean w2 n hn1 (by omega) a cap os HL.out (HO.out.non HF2.out)).mono ?_
  rintro e w3 ⟨D, p, m, pv, dv, wv, rfl, hB3, hF3, hpl, hcl⟩
  have HB3 := Lib.hid hB3
  have HF3 := Lib.hid hF3
  have HPL := Lib.hid hpl
  have HCLN := Lib.hid hcl
  clear hB3 hF3 hpl hcl hw1
  go_wp2_with (first
    | (guard_target =~ wpList _ _ _ (⟨_, Op.alloc 45, _, _, _, _⟩ :: _) _ _; refine wl rfl (r_allocA rfl (zero45 _)) ?_; have HN4 := Lib.hid (heap_alloc_new w3 (.cells zref 45)); have HF4 := Lib.hid ((Fr.refl Non w3).alloc (.cells zref 45)); obtain ⟨w4, hw4⟩ : ∃ w4, w3.alloc (.cells zref 45) = w4 := ⟨_, rfl⟩; rw [hw4]; rw [hw4] at HN4 HF4; clear hw4)
    | (guard_target =~ wpList _ _ _ (⟨_, Op.store 45 _ _, _, _, _, _⟩ :: _) _ w4; refine wu rfl (r_store (b := w3.heap.size) (i := 0) (cs := refL dv wv D) rfl rfl rfl (there45 HN4.out rfl) (by rw [sz45]; rfl) (refL_one HB3.out.r _)) ?_; have HN5 := Lib.hid (put45 HN4.out rfl (l := refL dv wv D) rfl); have HB5x := Lib.hid ((HB3.out.non HF4.out).put HN4.out (refL dv wv D)); have HF25 : Hid (Fr Non w2 (w4.setCells w3.heap.size 0 (refL dv wv D))) := Fr.setCells _ (fun h => by have := HF3.out.size; omega) _ _ _ (HF3.out.trans HF4.out (fun _ _ h => h)); generalize w4.setCells w3.heap.size 0 (refL dv wv D) = w5 at *; have HM5 : Hid (w5.rangeAt w3.heap.size 0 (refL dv wv D)) := rangeAt_of HN5.out 0 (refL dv wv D) (by simp); have HSPC := Lib.hid (RSparse_c w5 dv wv D HB5x.out.ok HB5x.out.r))
    | (guard_target =~ wpList _ _ _ (⟨_, Op.load 45 _, _, _, _, _⟩ :: _) _ _; refine wl rfl (r_load (b := w3.heap.size) (i := 0) rfl rfl HM5.out Try.underlying45 rfl (by rw [sz45]; rfl)) ?_; simp only [Act.put, List.setIfInBounds_toArray, List.set_cons_zero, List.set_cons_succ])
    | (go_at_call 33; refine HSPC.out.mono ?_; rintro e w6 ⟨wa, wc, rfl, hw6, hF6⟩; have HW6 := Lib.hid hw6; have HF6 := Lib.hid hF6; clear hw6 hF6)
    | (guard_target =~ wpList _ _ _ (⟨_, Op.alloc 68, _, _, _, _⟩ :: _) _ _; refine wl rfl (r_alloc (z := .slice none 0 0) rfl (zero68 _)) ?_; simp only [Act.put, List.setIfInBounds_toArray, List.set_cons_zero, List.set_cons_succ]; simp only [Value.cells])
    | fail)
  have hk10 : (((w6.alloc (.cells #[.slice wa (sparseL D).length wc] 68)).alloc (.cells #[.int .i64 0] 3))).heap[w6.heap.size]? = some (.cells #[.slice wa (sparseL D).length wc] 68) := ((Fr.refl Non _).alloc (.cells #[.int .i64 0] 3)).keep (heap_alloc_new w6 _) (fun h => h)
  have hk11 := heap_alloc_new (w6.alloc (.cells #[.slice wa (sparseL D).length wc] 68)) (.cells #[.int .i64 0] 3)
  have hF8 : Fr Non w6 ((w6.alloc (.cells #[.slice wa (sparseL D).length wc] 68)).alloc (.cells #[.int .i64 0] 3)) := ((Fr.refl _ w6).alloc _).alloc _
  have hz8 : ((w6.alloc (.cells #[.slice wa (sparseL D).length wc] 68)).alloc (.cells #[.int .i64 0] 3)).heap.size = w6.heap.size + 2 := by simp
  rw [World.size_alloc] at hk11
  generalize (w6.alloc (.cells #[.slice wa (sparseL D).length wc] 68)).alloc (.cells #[.int .i64 0] 3) = w8 at *
  refine (Sparse_c w8 (some ⟨p, 0, none⟩)).mono ?_
  rintro e w9 ⟨rfl, hw9⟩
  have hF9 : Fr Non w8 w9 := by rw [hw9]; exact (Fr.refl _ w8).alloc _
  have hkB : w9.heap[w8.heap.size]? = some (.cells #[.pointer (some ⟨p, 0, none⟩)] 23) := by rw [hw9]; exact heap_alloc_new w8 _
  have hz9 : w8.heap.size < w9.heap.size := heap_lt hkB
  rw [hz8] at hkB hz9 ⊢
  have HF29 : Hid (Fr Non w2 w9) := ((HF25.out.trans HF6.out (fun _ _ h => h)).trans hF8 (fun _ _ h => h)).trans hF9 (fun _ _ h => h)
  have HF09 : Hid (Fr Non w w9) := (HF0.out.trans HF2.out (fun _ _ h => h)).trans HF29.out (fun _ _ h => h)
  have HF19 : Hid (Fr Non w1 w9) := HF2.out.trans HF29.out (fun _ _ h => h)
  have HD9 : Hid (DiskAt w9 p m pv D) := (((HB5x.out.non HF6.out).non hF8).non hF9).d
  have HX5 := Lib.hid (HF19.out.keep HB5.out (fun h => h))
  have HX6 := Lib.hid (HF19.out.keep HB6.out (fun h => h))
  have HX10 := Lib.hid (hF9.keep hk10 (fun h => h))
  have HX11 := Lib.hid (hF9.keep hk11 (fun h => h))
  have HXB := Lib.hid hkB
  have HW9 : Hid (Own w9 3 1 intE (.slice wa (sparseL D).length wc) (sparseL D)) := (HW6.out.fr hF8 (fun _ _ h => h)).fr hF9 (fun _ _ h => h)
  have HFT : Hid (∀ k, k = w6.heap.size + 1 → k < w9.heap.size ∧ ¬ Foot p m pv k ∧ k ≠ w6.heap.size + 2) := fun k hk => ⟨by omega, fun hf => by have h1 := foot_lt (HB5x.out.non HF6.out).d hf; omega, by omega⟩
  have HLT0 := Lib.hid (show w.heap.size + 1 < w6.heap.size from by have h1 := heap_lt HB6.out; have h2 := HF2.out.size; have h3 := HF25.out.size; have h4 := HF6.out.size; omega)
  have HWB : Hid (∀ b, (Value.slice wa (sparseL D).length wc).ownBlock = some b → b ≠ w6.heap.size + 1) := fun b hb => by
    have := HW6.out.lt hb; omega
  have hseq := sparse_stops (w6.heap.size + 2) p m pv D (fun k => k = w6.heap.size + 1) HB3.out.ok HCLN.out w9 hz9 23 HXB.out HD9.out HFT.out
  have hsz9 : w.heap.size ≤ w9.heap.size := HF09.out.size
  have HG9 : Hid (w6.heap.size + 2 < w9.heap.size) := hz9
  have hsl : (sparseL D).length ≤ 4096 := by
    have hn0 := HB3.out.ok.n1
    unfold sparseL
    split
    · exact Nat.zero_le _
    · have := List.length_filter_le (vis D) ((List.range D.n.toNat).map fun i : Nat => (i : Int))
      rw [List.length_map, List.length_range] at this
      omega
  have HSL := Lib.hid hsl
  clear hk10 hk11 hF8 hz8 hw9 hF9 hkB hz9 hsl HSPC HM5 HN5 HN4 HF4 HB5 HB6
  generalize w6.heap.size = g at *
  go_wp2_with fail
  refine wp_rangeK rfl (enters_of Try.func54 (by kernel_rfl) rfl) (fun k => k = g + 1) hseq (fun _ => rfl)
    (fun pre W => Fr (· = g + 1) w9 W ∧ (pre = (sparseL D).take pre.length ∧ W.heap[g + 1]? = some (.cells #[.int .i64 (pre.length : Int)] 3)))
    (fun c pre W => (c = .ret ∧ ¬ ∃ k, k ≤ (sparseL D).length ∧ pre = (sparseL D).take k) ∨ (c = .exit 0 ∧ Fr (· = g + 1) w9 W ∧ ((pre.length : Int) == stop) = true ∧ W.heap[g + 1]? = some (.cells #[.int .i64 (pre.length : Int)] 3)))
    ?hI ?hIx ?h0 (fun x a' W => a' = { tmps := #[.int .u8 (s : Int), .slice a os.length cap, .int .i64 stop, undef, undef, .pointer (some ⟨w.heap.size, 0, none⟩), .pointer (some ⟨w.heap.size + 1, 0, none⟩), .pointer (some ⟨p, 0, none⟩), .pointer (some ⟨w3.heap.size, 0, none⟩), .bool true, .pointer (some ⟨g, 0, none⟩), .pointer (some ⟨g + 1, 0, none⟩), .int .i64 x, .bool true, .bool false, .bool false, .slice a os.length cap, .bool true, .bool false, .bool false, undef, .tuple #[.pointer (some ⟨p, 0, none⟩), .agg (refL dv wv D).toArray, .bool true], .int .u8 (s : Int), .int .u8 ((s : Int) % 12), .int .i64 ((s : Int) % 12), .int .i64 (n : Int), .slice a os.length cap, .tuple #[.pointer (some ⟨p, 0, none⟩), .agg (refL dv wv D).toArray, .bool true], .pointer (some ⟨p, 0, none⟩), .agg (refL dv wv D).toArray, .bool true, .bool true, .bool false, .agg (refL dv wv D).toArray, .slice wa (sparseL D).length wc, .pointer (some ⟨p, 0, none⟩), .func (.func 54) #[] #[.pointer (some ⟨g + 2, 0, none⟩)], .int .i64 x, undef, undef, undef, undef, undef, undef, undef, undef, undef, undef, undef, undef, undef, undef, undef, undef, undef, undef, undef, undef, undef, undef, undef, undef, undef, undef], defers := [] }) ?hAx ?assign ?body ?done ?stop
  case hI => exact OwnFrom.and (ownFrom_fr (Nat.le_refl _) (fun _ => (· = g + 1))) (OwnFrom.and (ownFrom_true _) (ownFrom_cells (fun _ => g + 1) (fun pre : List Int => #[.int .i64 (pre.length : Int)]) _))
  case hIx =>
    rintro c pre W W' row (⟨rfl, h⟩ | ⟨rfl, h1, h2, h3⟩) hg hr
    · exact .inl ⟨rfl, h⟩
    · exact .inr ⟨rfl, ownFrom_fr (β := Unit) (Nat.le_refl _) (fun _ => (· = g + 1)) () W W' row h1 hg hr, h2, ownFrom_cells (β := Unit) (B := w9.heap.size) (fun _ => g + 1) (fun _ => _) _ () W W' row h3 hg hr⟩
  case h0 => exact ⟨Fr.refl _ _, by simp, HX11.out⟩
  case hAx => exact fun x a' _ _ _ _ h _ _ => h
  case assign =>
    rintro l pre x W K hI hK
    have HK := Lib.hid hK
    have HI := Lib.hid hI
    clear hK hI hseq
    gi_wp2
    exact HK.out _ W (KeepsFrom.refl _ _) (KpS.refl _ _) HI.out rfl
  case body =>
    rintro l pre x a' W hl1 - ⟨hF, hp, h11⟩ rfl hlen
    obtain ⟨z, hz⟩ : ∃ z, (sparseL D)[pre.length]? = some z := ⟨_, List.getElem?_eq_getElem hlen⟩
    have c10 : W.cell? ⟨g, 0, none⟩ = some (.slice wa (sparseL D).length wc) := cellOf (hF.keep HX10.out (fun e => by omega)) 0 rfl
    have c11 : W.cell? ⟨g + 1, 0, none⟩ = some (.int .i64 (pre.length : Int)) := cellOf h11 0 rfl
    have f11 := frozenOf h11 0
    have hw : Own W 3 1 intE (.slice wa (sparseL D).length wc) (sparseL D) := HW9.out.fr hF (fun b hb e => HWB.out b hb e)
    obtain ⟨ga, rfl⟩ : ∃ ga, wa = some ⟨ga, 0, none⟩ := by
      obtain ⟨a', cap', he, -, h2, h3⟩ := Own.shape hw
      cases wa with
      | none => have e : a' = none := by cases he; rfl
                rw [h2 e] at hlen; simp at hlen
      | some ad => have e : a' = some ad := by cases he; rfl
                   obtain ⟨g', hg'⟩ := h3 ad e; exact ⟨g', by rw [hg']⟩
    have cz : W.cell? ⟨ga, pre.length, none⟩ = some (.int .i64 z) := by
      have := Own.elem elem3 hw hz 0 _ rfl
      simpa using this
    have hlen' : ¬ (((sparseL D).length : Int) ≤ (pre.length : Int)) := by omega
    have hlen2 : ((pre.length : Int) < ((sparseL D).length : Int)) := by omega
    have hpl9 : (pre.length : Int) ≤ 4096 := by have := HSL.out; omega
    have hsl9 : ((sparseL D).length : Int) ≤ 4096 := by have := HSL.out; omega
    have hst : (W.setCell ⟨g + 1, 0, none⟩ (.int .i64 ((pre.length : Int) + 1))).heap[g + 1]? = some (.cells #[.int .i64 ((pre.length : Int) + 1)] 3) := heap_setCell_at h11 0 _
    have hFs : Fr (· = g + 1) W (W.setCell ⟨g + 1, 0, none⟩ (.int .i64 ((pre.length : Int) + 1))) := (Fr.refl _ W).setCell _ _ (fun _ => rfl)
    have d11 := cellOf hst 0 rfl
    have d5 : (W.setCell ⟨g + 1, 0, none⟩ (.int .i64 ((pre.length : Int) + 1))).cell? ⟨w.heap.size, 0, none⟩ = some (.int .i64 stop) := cellOf ((hF.trans hFs (fun _ _ h => h)).keep HX5.out (fun e => by have := HLT0.out; omega)) 0 rfl
    have hlie : ∃ cs t fz, W.heap[g + 1]? = some (.cells cs t fz) := ⟨_, _, _, h11⟩
    have HST := Lib.hid hst
    have HFS := Lib.hid hFs
    have HF := Lib.hid hF
    have HP := Lib.hid hp
    have HZ := Lib.hid hz
    have HLIE := Lib.hid hlie
    obtain ⟨W1, hW1⟩ : ∃ W1, W.setCell ⟨g + 1, 0, none⟩ (.int .i64 ((pre.length : Int) + 1)) = W1 := ⟨_, rfl⟩
    rw [hW1] at d11 d5 HST HFS
    clear hF hp h11 hz hw hlen hst hFs hseq hlie
    by_cases hxz : x = z
    · subst hxz
      have hpr : pre ++ [x] = (sparseL D).take (pre ++ [x]).length := take_snoc HP.out HZ.out
      have hpn : ((pre ++ [x]).length : Int) = (pre.length : Int) + 1 := by simp
      have HPR := Lib.hid hpr
      have HPN := Lib.hid hpn
      clear hpr hpn
      cases hs : ((pre.length : Int) + 1 == stop) with
      | true =>
        have HS := Lib.hid hs
        gi_wp2_with (first
          | (guard_target =~ wpListIn _ _ _ _ _ (⟨_, Op.store 3 _ _, _, _, _, _⟩ :: _) _ _; refine wuIn rfl rfl (r_storeK (p := ⟨g + 1, 0, none⟩) rfl rfl rfl (Try.sizeOf3 _) c11 f11) ?_; rw [hW1]; simp only [Act.put, List.setIfInBounds_toArray, List.set_cons_zero, List.set_cons_succ])
          | fail)
        refine ⟨keepsFrom_fr HFS.out (fun j hj => by cases hj; exact .inr HLIE.out), .inr ⟨rfl, HF.out.trans HFS.out (fun _ _ h => h), ?_, ?_⟩⟩
        · rw [HPN.out]; exact beq_iff_eq.1 HS.out
        · rw [HPN.out]; exact HST.out
      | false =>
        gi_wp2_with (first
          | (guard_target =~ wpListIn _ _ _ _ _ (⟨_, Op.store 3 _ _, _, _, _, _⟩ :: _) _ _; refine wuIn rfl rfl (r_storeK (p := ⟨g + 1, 0, none⟩) rfl rfl rfl (Try.sizeOf3 _) c11 f11) ?_; rw [hW1]; simp only [Act.put, List.setIfInBounds_toArray, List.set_cons_zero, List.set_cons_succ])
          | fail)
        refine ⟨keepsFrom_fr HFS.out (fun j hj => by cases hj; exact .inr HLIE.out), KpS.of_fr HFS.out, HF.out.trans HFS.out (fun _ _ h => h), HPR.out, ?_⟩
        rw [HPN.out]; exact HST.out
    · have hxe : (x == z) = false := beq_eq_false_iff_ne.2 hxz
      have HNO := Lib.hid (take_snoc_ne HZ.out hxz)
      have c6 : W.cell? ⟨w.heap.size + 1, 0, none⟩ = some (.bool false) := cellOf (HF.out.keep HX6.out (fun e => by have := HLT0.out; omega)) 0 rfl
      have f6 := frozenOf (HF.out.keep HX6.out (fun e => by have := HLT0.out; omega)) 0
      have HK6 : Hid (KeepsFrom w9.heap.size W (W.setCell ⟨w.heap.size + 1, 0, none⟩ (.bool false))) := keepsFrom_fr ((Fr.refl (· = w.heap.size + 1) W).setCell _ _ (fun _ => rfl)) (fun j hj => by cases hj; exact .inl (by have := HLT0.out; have := HG9.out; omega))
      clear hxz hW1 d11 d5
      gi_wp2_with fail
      exact ⟨HK6.out, .inl ⟨rfl, fun k h1 h2 => HNO.out ⟨k, h1, h2⟩⟩⟩
  case done =>
    rintro K xs W hK rfl ⟨hF, -, h11⟩ hKd
    have HKD := Lib.hid hKd
    have c10 : W.cell? ⟨g, 0, none⟩ = some (.slice wa (sparseL D).length wc) := cellOf (hF.keep HX10.out (fun e => by omega)) 0 rfl
    have c11 : W.cell? ⟨g + 1, 0, none⟩ = some (.int .i64 ((sparseL D).length)) := cellOf h11 0 rfl
    have c5 : W.cell? ⟨w.heap.size, 0, none⟩ = some (.int .i64 stop) := cellOf (hF.keep HX5.out (fun e => by have := HLT0.out; omega)) 0 rfl
    have h6 := hF.keep HX6.out (fun e => by have := HLT0.out; omega)
    have c6 := cellOf h6 0 rfl
    have f6 := frozenOf h6 0
    have hfin : Fr Non w (W.setCell ⟨w.heap.size + 1, 0, none⟩ (.bool true)) := (HF09.out.trans hF (fun i hi e => by have e' : i = g + 1 := e; have := HLT0.out; omega)).setCell _ _ (fun h => absurd h (by show ¬ (w.heap.size + 1 < w.heap.size); omega))
    have hb6f := heap_setCell_at h6 0 (.bool true)
    have hkf : (W.setCell ⟨w.heap.size + 1, 0, none⟩ (.bool true)).heap[K]? = some (.deferred (some [])) := by
      have hne : K ≠ w.heap.size + 1 := by rintro rfl; rw [hKd] at h6; cases h6
      rw [Below.heap_setCell _ _ _ _ hne]; exact hKd
    have HKF := Lib.hid hkf
    have HFIN := Lib.hid hfin
    have HB6F := Lib.hid hb6f
    have HKG : Hid (w.heap.size ≤ K) := Nat.le_trans HF09.out.size hK
    clear hkf hfin hb6f h6 hF h11 hKd hK hseq
    go_wp2_with fail
    exact ret_mark HKF.out (results_cell1 (p := 6) rfl _ _ (w.heap.size + 1) _ rfl (cellOf (heap_putMark HKF.out HB6F.out rfl) 0 rfl) (Try.isAgg4 _)) ⟨rfl, putMark HFIN.out HKG.out _⟩
  case stop =>
    rintro K c pre W hK hsp (⟨rfl, hx⟩ | ⟨rfl, hF, hst, h11⟩) hKd
    · exact absurd hsp hx
    clear hsp
    have HKD := Lib.hid hKd
    have c10 : W.cell? ⟨g, 0, none⟩ = some (.slice wa (sparseL D).length wc) := cellOf (hF.keep HX10.out (fun e => by omega)) 0 rfl
    have c11 : W.cell? ⟨g + 1, 0, none⟩ = some (.int .i64 (pre.length)) := cellOf h11 0 rfl
    have c5 : W.cell? ⟨w.heap.size, 0, none⟩ = some (.int .i64 stop) := cellOf (hF.keep HX5.out (fun e => by have := HLT0.out; omega)) 0 rfl
    have h6 := hF.keep HX6.out (fun e => by have := HLT0.out; omega)
    have c6 := cellOf h6 0 rfl
    have f6 := frozenOf h6 0
    have hfin : Fr Non w (W.setCell ⟨w.heap.size + 1, 0, none⟩ (.bool true)) := (HF09.out.trans hF (fun i hi e => by have e' : i = g + 1 := e; have := HLT0.out; omega)).setCell _ _ (fun h => absurd h (by show ¬ (w.heap.size + 1 < w.heap.size); omega))
    have hb6f := heap_setCell_at h6 0 (.bool true)
    have hkf : (W.setCell ⟨w.heap.size + 1, 0, none⟩ (.bool true)).heap[K]? = some (.deferred (some [])) := by
      have hne : K ≠ w.heap.size + 1 := by rintro rfl; rw [hKd] at h6; cases h6
      rw [Below.heap_setCell _ _ _ _ hne]; exact hKd
    have HKF := Lib.hid hkf
    have HFIN := Lib.hid hfin
    have HB6F := Lib.hid hb6f
    have HKG : Hid (w.heap.size ≤ K) := Nat.le_trans HF09.out.size hK
    clear hkf hfin hb6f h6 hF h11 hKd hK hseq
    cases hz : ((pre.length : Int) == ((sparseL D).length : Int)) with
    | true =>
      go_wp2_with fail
      exact ret_mark HKF.out (results_cell1 (p := 6) rfl _ _ (w.heap.size + 1) _ rfl (cellOf (heap_putMark HKF.out HB6F.out rfl) 0 rfl) (Try.isAgg4 _)) ⟨rfl, putMark HFIN.out HKG.out _⟩
    | false =>
      go_wp2_with fail
      exact ret_mark HKF.out (results_cell1 (p := 6) rfl _ _ (w.heap.size + 1) _ rfl (cellOf (heap_putMark HKF.out HB6F.out rfl) 0 rfl) (Try.isAgg4 _)) ⟨rfl, putMark HFIN.out HKG.out _⟩

set_option maxRecDepth 100000 in
set_option maxHeartbeats 2000000 in
theorem Sparse_big (w : World) (s : Nat) (a : Option Addr) (n1 cap : Nat) (stop : Int) (h : ¬ n1 ≤ 40) :
    Calls Try.prog 9 #[.int .u8 s, .slice a n1 cap, .int .i64 stop] w fun e w' => e = .returned (.bool true) ∧ Fr Non w w' := by
  have hb5 := ((Fr.refl Non _).alloc (.cells #[.bool false] 4)).keep (heap_alloc_new w (.cells #[.int .i64 stop] 3)) (fun h => h)
  have hb6 := heap_alloc_new (w.alloc (.cells #[.int .i64 stop] 3)) (.cells #[.bool false] 4)
  rw [World.size_alloc] at hb6
  have HF0 : Hid (Fr Non w ((w.alloc (.cells #[.int .i64 stop] 3)).alloc (.cells #[.bool false] 4))) := ((Fr.refl _ w).alloc _).alloc _
  obtain ⟨w1, hw1⟩ : ∃ w1, (w.alloc (.cells #[.int .i64 stop] 3)).alloc (.cells #[.bool false] 4) = w1 := ⟨_, rfl⟩
  rw [hw1] at hb5 hb6 HF0
  have HB6 := Lib.hid hb6
  have e1 : decide (n1 ≤ 40) = false := decide_eq_false h
  clear hb5 hb6 h
  go_enter Try.func9, Try.ntmps9
  go_wp2_with (first
    | (guard_target =~ wpList _ _ _ (⟨_, Op.box 3 _, _, _, _, _⟩ :: _) _ _; refine wl rfl (r_box rfl) ?_; simp only [Act.put, List.setIfInBounds_toArray, List.set_cons_zero, List.set_cons_succ])
    | (guard_target =~ wpList _ _ _ (⟨_, Op.alloc 4, _, _, _, _⟩ :: _) _ _; refine wl rfl (r_alloc (z := .bool false) rfl (zero4 _)) ?_; simp only [Act.put, List.setIfInBounds_toArray, List.set_cons_zero, List.set_cons_succ]; simp only [Value.cells]; rw [hw1])
    | (go_at_call 11; refine (known_c w1).mono ?_; rintro e w2 ⟨rfl, hF2⟩; have HF2 := Lib.hid hF2; clear hF2)
    | (go_at_call 11; refine (known_c w2).mono ?_; rintro e w9 ⟨rfl, hF9⟩; have HF9 := Lib.hid hF9; have c6 := cellOf ((HF2.out.trans hF9 (fun _ _ h => h)).keep HB6.out (fun h => h)) 0 rfl; have f6 := frozenOf ((HF2.out.trans hF9 (fun _ _ h => h)).keep HB6.out (fun h => h)) 0; clear hF9)
    | (go_at_call 22; refine (small_c _ _ _ _).mono ?_; rintro e wx ⟨rfl, rfl⟩)
    | fail)
  have HF29 : Hid (Fr Non w w9) := (HF0.out.trans HF2.out (fun _ _ h => h)).trans HF9.out (fun _ _ h => h)
  have hq := heap_setCell_at ((HF2.out.trans HF9.out (fun _ _ h => h)).keep HB6.out (fun h => h)) 0 (.bool true)
  refine bodyPost_ret (results_cell1 (p := 6) rfl _ _ (w.heap.size + 1) _ rfl (cellOf hq 0 rfl) (Try.isAgg4 _)) rfl ?_
  exact ⟨rfl, HF29.out.setCell _ _ (fun h => absurd h (by show ¬ (w.heap.size + 1 < w.heap.size); omega))⟩
end Go.Proofs.Yticgkbpmaakkiaa
