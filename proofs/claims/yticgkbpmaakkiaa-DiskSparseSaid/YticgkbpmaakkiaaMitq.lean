/-
  Ranging over a map that stays as it is; clear; an entry that is looked up and then stored. Program-free.
-/
import Derived.Test.YticgkbpmaakkiaaOpnq
import Derived.Maps.RangeRun
namespace Go.Proofs.Yticgkbpmaakkiaa
open Go.RowKit

theorem perm_take {α : Type} (key : α → Nat) : ∀ (L : List α) (p : α → Bool) (x : α), (L.map key).Nodup → x ∈ L → p x = true → (L.filter p).Perm (x :: L.filter fun y => p y && !(key y == key x))
  | [], _, _, _, h, _ => by cases h
  | a :: L, p, x, hn, hx, hp => by
    simp only [List.map_cons, List.nodup_cons] at hn
    rcases List.mem_cons.1 hx with rfl | hx
    · rw [List.filter_cons_of_pos hp, List.filter_cons_of_neg (by simp)]
      refine List.Perm.cons _ ?_
      have : L.filter p = L.filter fun y => p y && !(key y == key x) := by
        apply List.filter_congr
        intro y hy
        have : key y ≠ key x := fun e => hn.1 (e ▸ List.mem_map_of_mem hy)
        simp [this]
      rw [← this]
    · have ih := perm_take key L p x hn.2 hx hp
      have hne : key a ≠ key x := fun e => hn.1 (e ▸ List.mem_map_of_mem hx)
      by_cases ha : p a = true
      · rw [List.filter_cons_of_pos ha, List.filter_cons_of_pos (by simp [ha, hne])]
        exact (List.Perm.cons a ih).trans (List.Perm.swap _ _ _)
      · rw [List.filter_cons_of_neg ha, List.filter_cons_of_neg (by simp [ha])]
        exact ih

section
variable {P : Program} {a : Act} {w w' : World} {o : Oper}
theorem r_range {t : TypeId} {m : Operand} (ho : o.op = .range t m) {mv u : Value} (hm : a.eval m = mv) (hr : (Instr.range t mv).run P w = .ok u w') : RunV P o a w u w' := by
  unfold RunV execOp
  simp only [ho, hm, Sem.run_bind, hr, Result.andThen_ok, Sem.run_pure]
theorem r_next {it : Operand} {b : Bool} (ho : o.op = .next it b) {iv u : Value} (hi : a.eval it = iv) {ty : TypeId} (hty : o.type = ty) (hr : (Instr.next iv b ty).run P w = .ok u w') : RunV P o a w u w' := by
  subst hty
  unfold RunV execOp
  simp only [ho, hi, Sem.run_bind, hr, Result.andThen_ok, Sem.run_pure]
theorem r_entry {it : Operand} (ho : o.op = .entry it) {iv u : Value} (hi : a.eval it = iv) (hr : (Instr.entry iv).run P w = .ok u w') : RunV P o a w u w' := by
  unfold RunV execOp
  simp only [ho, hi, Sem.run_bind, hr, Result.andThen_ok, Sem.run_pure]
theorem r_mapEntry {t : TypeId} {m x : Operand} (ho : o.op = .mapEntry t m x) {mv kv u : Value} (hm : a.eval m = mv) (hx : a.eval x = kv) (hr : (Instr.mapEntry t mv kv).run P w = .ok u w') : RunV P o a w u w' := by
  unfold RunV execOp
  simp only [ho, hm, hx, Sem.run_bind, hr, Result.andThen_ok, Sem.run_pure]
theorem r_entryStore {t : TypeId} {m x y : Operand} (ho : o.op = .entryStore t m x y) {mv kv vv : Value} (hm : a.eval m = mv) (hx : a.eval x = kv) (hy : a.eval y = vv) (hr : (Instr.entryStore t mv kv vv).run P w = .ok () w') : RunU P o a w w' := by
  unfold RunU execOp
  simp only [ho, hm, hx, hy, Sem.run_bind, hr, Result.andThen_ok, Sem.run_pure]
theorem builtin_clear {ts : Array TypeId} {ty : TypeId} {vs : Array Value} {u : Value} (h : (Builtin.clear_ ts ty vs).run P w = .ok u w') (cs : Array Bool) : (builtin .clear ts ty cs vs).run P w = .ok (.value u) w' := by
  simp only [builtin, Sem.run_bind, h, Result.andThen_ok, Sem.run_pure]
end

section
variable {P : Program} {K V : Type} {enc : K → Value} {venc : V → Value} {l done : List (K × V)} {w : World} {r m : Nat}

/-- The iterator at block r over the map at block m: of its entries those in done have come. -/
def Ranging (w : World) (r m : Nat) (enc : K → Value) (venc : V → Value) (l done : List (K × V)) : Prop :=
  ∃ (L : List (MapEntry × (K × V))) (es : Array MapEntry) (clock since c0 : Nat) (seen : Array Nat), w.heap[r]? = some (.mapIter (some m) since seen c0) ∧ w.heap[m]? = some (.map es clock) ∧ since ≤ c0 ∧ since ≤ clock ∧
    es.toList = L.map (·.1) ∧ l = L.map (·.2) ∧ (∀ y ∈ L, y.1.key = enc y.2.1 ∧ y.1.val = venc y.2.2 ∧ y.1.born < since) ∧ (L.map fun y => y.1.born).Nodup ∧
    (done ++ (L.filter fun y => !seen.contains y.1.born).map (·.2)).Perm l ∧ seen.size = done.length

theorem ranging_start [DecidableEq K] (h : MapAt w m enc venc l) {t kt et : TypeId} (ht : P.underlying t = some (.map kt et)) :
    ∃ w', (Instr.range t (.map (some m))).run P w = .ok (.pointer (some ⟨w.heap.size, 0, none⟩)) w' ∧ Ranging w' w.heap.size m enc venc l [] ∧ Fr Non w w' := by
  obtain ⟨es, clock, hb, hl, hn, hc⟩ := h.ex
  refine ⟨_, run_range_map w t kt et m es clock ht hb, ?_, (Fr.refl _ w).alloc _⟩
  have hlen : es.toList.length = l.length := by have := congrArg List.length hl; simpa using this
  have e1 : (es.toList.zip l).map (·.1) = es.toList := by rw [List.map_fst_zip]; omega
  have e2 : (es.toList.zip l).map (·.2) = l := by rw [List.map_snd_zip]; omega
  refine ⟨es.toList.zip l, es, clock, clock, clock, #[], heap_alloc_new w _, ((Fr.refl Non w).alloc _).keep hb (fun h => h), Nat.le_refl _, Nat.le_refl _, e1.symm, e2.symm, ?_, ?_, ?_⟩
  · intro y hy
    obtain ⟨i, hi⟩ := List.getElem?_of_mem hy
    obtain ⟨h1, h2⟩ := List.getElem?_zip_eq_some.1 hi
    have h3 := congrArg (fun z => z[i]?) hl
    simp only [List.getElem?_map, h1, h2, Option.map_some, Option.some.injEq, Prod.mk.injEq] at h3
    exact ⟨h3.1, h3.2, hc _ (List.mem_of_getElem? h1)⟩
  · have : (es.toList.zip l).map (fun y => y.1.born) = es.toList.map (·.born) := by rw [← e1, List.map_map, e1]; rfl
    rw [this]; exact hn
  · have : (es.toList.zip l).filter (fun y => !(#[] : Array Nat).contains y.1.born) = es.toList.zip l := List.filter_eq_self.2 (by simp)
    rw [this, e2]; exact ⟨List.Perm.refl _, rfl⟩

theorem Ranging.fr {S : Nat → Prop} {w' : World} (h : Ranging w r m enc venc l done) (hf : Fr S w w') (h1 : ¬ S r) (h2 : ¬ S m) : Ranging w' r m enc venc l done := by
  obtain ⟨L, es, clock, since, c0, seen, hr, hm, rest⟩ := h
  exact ⟨L, es, clock, since, c0, seen, hf.keep hr h1, hf.keep hm h2, rest⟩
theorem Ranging.rlt (h : Ranging w r m enc venc l done) : r < w.heap.size := by obtain ⟨L, es, clock, since, c0, seen, hr, hm, _⟩ := h; exact heap_lt hr
theorem Ranging.mne (h : Ranging w r m enc venc l done) : m ≠ r := by
  rintro rfl
  obtain ⟨L, es, clock, since, c0, seen, hr, hm, _⟩ := h
  rw [hr] at hm; cases hm
theorem Ranging.sub (h : Ranging w r m enc venc l done) : ∃ rest, (done ++ rest).Perm l := by
  obtain ⟨L, es, clock, since, c0, seen, _, _, _, _, _, _, _, _, hp, _⟩ := h
  exact ⟨_, hp⟩

/-- How many have come, read off the iterator. -/
def seenAt (w : World) (r : Nat) : Nat := match w.heap[r]? with
  | some (.mapIter _ _ seen _) => seen.size
  | _ => 0
theorem Ranging.seenAt (h : Ranging w r m enc venc l done) : seenAt w r = done.length := by
  obtain ⟨L, es, clock, since, c0, seen, hr, _, _, _, _, _, _, _, _, hsz⟩ := h
  unfold Go.Proofs.Yticgkbpmaakkiaa.seenAt
  rw [hr]; exact hsz
theorem Ranging.len (h : Ranging w r m enc venc l done) : done.length ≤ l.length := by
  obtain ⟨rest, hp⟩ := h.sub
  have := hp.length_eq
  simp at this; omega
/-- 'next': all have come, or another one comes; then 'entry' hands it out. -/
theorem ranging_next (h : Ranging w r m enc venc l done) (ty : TypeId) :
    (done.Perm l ∧ (Instr.next (.pointer (some ⟨r, 0, none⟩)) false ty).run P w = .ok (.tuple #[.bool false]) w) ∨
    ∃ x w', x ∈ l ∧ (Instr.next (.pointer (some ⟨r, 0, none⟩)) false ty).run P w = .ok (.tuple #[.bool true, enc x.1, venc x.2]) w' ∧ (Instr.entry (.pointer (some ⟨r, 0, none⟩))).run P w' = .ok (.tuple #[enc x.1, venc x.2]) w' ∧
      Ranging w' r m enc venc l (done ++ [x]) ∧ Fr (· = r) w w' ∧ done.length < l.length := by
  have hmr := h.mne
  obtain ⟨L, es, clock, since, c0, seen, hr, hm, hsc, hsk, hes, hl, hL, hn, hp, hsz⟩ := h
  have hold : ∀ x ∈ es.toList, x.born < since := by
    intro x hx
    rw [hes] at hx
    obtain ⟨y, hy, rfl⟩ := List.mem_map.1 hx
    exact (hL y hy).2.2
  have hlo : (leftOf es seen).toList = (L.filter fun y => !seen.contains y.1.born).map (·.1) := by
    unfold leftOf
    rw [Array.toList_filter, hes, List.filter_map]
    rfl
  rcases run_next_at (P := P) w ty r m since c0 seen es clock hr hm hold hsc with ⟨h0, h1⟩ | ⟨e, he, w1, hw1, h1⟩
  · left
    refine ⟨?_, h1⟩
    have : (L.filter fun y => !seen.contains y.1.born) = [] := by
      have h2 : (leftOf es seen).toList.length = 0 := by simpa using h0
      rw [hlo, List.length_map] at h2
      exact List.eq_nil_of_length_eq_zero h2
    rw [this] at hp
    simpa using hp
  · right
    rw [hlo] at he
    obtain ⟨y, hy, rfl⟩ := List.mem_map.1 he
    obtain ⟨hyL, hys⟩ := List.mem_filter.1 hy
    obtain ⟨hk, hv, hb⟩ := hL y hyL
    have hq : w1.heap = w.heap ∧ w1.os = w.os ∧ w1.tape = w.tape ∧ w1.output = w.output := by rcases hw1 with rfl | rfl <;> exact ⟨rfl, rfl, rfl, rfl⟩
    have hF : Fr (· = r) w (Go.ChangeMaps.setBlock w1 r (.mapIter (some m) since (seen.push y.1.born) clock)) := by
      exact ⟨hq.2.1, hq.2.2.1, hq.2.2.2, by simp [Go.ChangeMaps.setBlock, hq.1], fun k hk hne => by simp only [Go.ChangeMaps.setBlock]; rw [Array.getElem?_setIfInBounds_ne (fun e => hne e.symm), hq.1]⟩
    have hr' : (Go.ChangeMaps.setBlock w1 r (.mapIter (some m) since (seen.push y.1.born) clock)).heap[r]? = some (.mapIter (some m) since (seen.push y.1.born) clock) := by
      have hlt : r < w1.heap.size := by rcases hw1 with rfl | rfl <;> exact heap_lt hr
      simp only [Go.ChangeMaps.setBlock]
      rw [Array.getElem?_setIfInBounds_self_of_lt hlt]
    have hm' := hF.keep hm (fun e => hmr e)
    have hperm : (L.filter fun y => !seen.contains y.1.born).Perm (y :: L.filter fun z => !(seen.push y.1.born).contains z.1.born) := by
      have := perm_take (fun z : MapEntry × (K × V) => z.1.born) L (fun z => !seen.contains z.1.born) y hn hyL hys
      refine this.trans (List.Perm.cons _ (List.Perm.of_eq (List.filter_congr fun z _ => ?_)))
      simp only [Array.contains_push]
      cases seen.contains z.1.born <;> simp
    refine ⟨y.2, _, by rw [hl]; exact List.mem_map_of_mem hyL, by rw [h1, hk, hv], ?_, ⟨L, es, clock, since, clock, seen.push y.1.born, hr', hm', hsk, hsk, hes, hl, hL, hn, ?_⟩, hF, ?_⟩
    · rw [run_entry_at _ r m since seen es clock y.1 hr' hm' (by rw [hes]; exact List.mem_map_of_mem hyL) (by rw [hes, List.map_map]; exact hn), hk, hv]
    · refine ⟨?_, by simp [hsz]⟩
      rw [List.append_assoc]
      refine (List.Perm.append_left done ?_).trans hp
      have := (hperm.map (·.2)).symm
      simpa using this
    · have h2 := hp.length_eq
      have h3 := hperm.length_eq
      simp only [List.length_append, List.length_map, List.length_cons] at h2 h3
      omega

/-! ### clear -/
theorem run_clear_map (h : MapAt w m enc venc l) {t kt et ty : TypeId} (ht : P.underlying t = some (.map kt et)) :
    ∃ o, (Builtin.clear_ #[t] ty #[.map (some m)]).run P w = .ok (.tuple #[]) (w.putObj m o) ∧ MapAt (w.putObj m o) m enc venc ([] : List (K × V)) := by
  obtain ⟨es, clock, hb, hl, hn, hc⟩ := h.ex
  refine ⟨.map #[] clock, ?_, ⟨⟨#[], clock, World.putObj_heap_same (heap_lt hb), by simp, by simp, by simp⟩, by simp⟩⟩
  unfold Builtin.clear_
  simp only [List.getElem?_toArray, List.getElem?_cons_zero, Sem.run_bind, run_underlying ht, Result.andThen_ok, run_getObj_map hb, run_setObj_map _ hb, Sem.run_pure]

/-! ### an entry looked up, then stored -/
variable [DecidableEq K]
/-- The map at m has k's entry in place; storing through the stamp puts a value there. -/
def EntAt (w : World) (m : Nat) (enc : K → Value) (venc : V → Value) (l : List (K × V)) (k : K) (stamp : Int) : Prop :=
  ∃ (es : Array MapEntry) (clock i : Nat), w.heap[m]? = some (.map es clock) ∧ es.findIdx? (fun e => (e.born : Int) == stamp) = some i ∧
    (∀ v', (es.modify i fun e => { e with val := venc v' }).toList.map (fun e => (e.key, e.val)) = (aput k v' l).map (fun x => (enc x.1, venc x.2))) ∧
    (es.toList.map (·.born)).Nodup ∧ (∀ e ∈ es.toList, e.born < clock) ∧ (l.map (·.1)).Nodup
theorem EntAt.fr {S : Nat → Prop} {w' : World} {k : K} {stamp : Int} (h : EntAt w m enc venc l k stamp) (hf : Fr S w w') (hn : ¬ S m) : EntAt w' m enc venc l k stamp := by
  obtain ⟨es, clock, i, hb, r⟩ := h
  exact ⟨es, clock, i, hf.keep hb hn, r⟩
theorem born_modify (es : Array MapEntry) (i : Nat) (f : MapEntry → MapEntry) (hf : ∀ e, (f e).born = e.born) : (es.modify i f).toList.map (·.born) = es.toList.map (·.born) := by
  rw [Array.toList_modify]
  apply List.ext_getElem?
  intro j
  simp only [List.getElem?_map, List.getElem?_modify]
  split
  · cases es.toList[j]? <;> simp [hf]
  · cases es.toList[j]? <;> rfl
theorem find_stamp {es : Array MapEntry} (hn : (es.toList.map (·.born)).Nodup) {i : Nat} {e : MapEntry} (he : es.toList[i]? = some e) : es.findIdx? (fun x => (x.born : Int) == (e.born : Int)) = some i := by
  have hi := (List.getElem?_eq_some_iff.1 he).1
  have hi' : i < es.size := by simpa using hi
  rw [Array.findIdx?_eq_some_iff_getElem]
  have hei : es[i] = e := by simpa using (List.getElem?_eq_some_iff.1 he).2
  refine ⟨hi', by simp [hei], fun j hji => ?_⟩
  have h2 := List.pairwise_iff_getElem.1 (List.nodup_iff_pairwise_ne.1 hn) j i (by simp; omega) (by simp; omega) hji
  simp only [List.getElem_map, Array.getElem_toList] at h2
  rw [hei] at h2
  simp
  omega
theorem run_mapEntry (h : MapAt w m enc venc l) {t kt et : TypeId} (hK : KeyOk P kt enc) (ht : P.underlying t = some (.map kt et)) {z : V} (hz : ∀ w, (zeroValue et).run P w = .ok (venc z) w) (k : K) :
    ∃ o stamp, (Instr.mapEntry t (.map (some m)) (enc k)).run P w = .ok (.tuple #[venc ((aget k l).getD z), .int .i64 stamp]) (w.putObj m o) ∧ EntAt (w.putObj m o) m enc venc l k stamp := by
  obtain ⟨es, clock, hb, hl, hn, hc⟩ := h.ex
  have hf := hK.find k _ es.toList (pairs_of hl) w
  rw [afind_map] at hf
  have hg := afind_get k l 0
  have hm := heap_lt hb
  have hpu : ∀ v : V, _ := fun v => afind_put k v l 0
  unfold Instr.mapEntry
  simp only [Sem.run_bind, run_underlying ht, Result.andThen_ok, run_getObj_map hb, hK.check, hf]
  cases ha : afind k l 0 with
  | none =>
    rw [ha] at hg
    have hg : aget k l = none := hg.symm
    simp only [Option.map_none, Sem.run_bind, hz, Result.andThen_ok, run_setObj_map _ hb, Sem.run_pure, hg, Option.getD_none]
    have hes : (es.push { key := enc k, val := venc z, born := clock }).toList[es.size]? = some { key := enc k, val := venc z, born := clock } := by simp
    have hn' : ((es.push { key := enc k, val := venc z, born := clock }).toList.map (·.born)).Nodup := by
      simp only [Array.toList_push, List.map_append, List.map_cons, List.map_nil]
      refine List.nodup_append.2 ⟨hn, by simp, ?_⟩
      intro a ha b hb' e
      simp at hb'
      subst hb'; subst e
      obtain ⟨y, hy, e2⟩ := List.mem_map.1 ha
      have := hc y hy
      omega
    refine ⟨_, clock, rfl, _, clock + 1, es.size, World.putObj_heap_same hm, find_stamp hn' hes, fun v' => ?_, hn', ?_, h.nodup⟩
    · rw [((hpu v').2 ha).1, Array.toList_modify, map_modify (fun e : MapEntry => (e.key, e.val)) (fun e => { e with val := venc v' }) _ _ (enc k, venc v') (fun a ha => by rw [hes] at ha; cases ha; rfl)]
      have hlen : es.size = l.length := by have := congrArg List.length hl; simpa using this
      simp only [Array.toList_push, List.map_append, List.map_cons, List.map_nil, hl]
      rw [hlen, List.set_append_right _ _ (by simp)]
      simp
    · intro e he
      simp only [Array.toList_push, List.mem_append, List.mem_singleton] at he
      rcases he with he | rfl
      · have := hc e he; omega
      · simp
  | some p =>
    rw [ha] at hg
    have hg : aget k l = some p.2 := hg.symm
    obtain ⟨_, e0, _, _⟩ := (hpu z).1 p ha
    simp only [Nat.sub_zero] at e0
    obtain ⟨y, hy, hy2⟩ := Option.map_eq_some_iff.1 e0
    have hlk : (es.toList.map (fun e => (e.key, e.val)))[p.1]? = some (enc y.1, venc y.2) := by rw [hl]; simp [hy]
    rw [List.getElem?_map] at hlk
    obtain ⟨e, he, he2⟩ := Option.map_eq_some_iff.1 hlk
    have he3 : es[p.1]? = some e := by simpa using he
    have hkey : e.key = enc k := by rw [← hy2]; exact (Prod.mk.inj he2).1
    simp only [Option.map_some, Sem.run_bind, he3, Option.getD_some, hkey, hK.stays, Result.andThen_ok, run_setObj_map _ hb, Sem.run_pure, hg]
    have hmk : (es.modify p.1 fun e => { e with key := enc k }) = es := by
      apply Array.ext'
      rw [Array.toList_modify]
      apply List.ext_getElem?
      intro j
      rw [List.getElem?_modify]
      by_cases hj : p.1 = j
      · subst hj; rw [he]; simp [← hkey]
      · simp [hj]
    rw [hmk]
    refine ⟨_, e.born, rfl, es, clock, p.1, World.putObj_heap_same hm, find_stamp hn he, fun v' => ?_, hn, hc, h.nodup⟩
    obtain ⟨_, _, e1, _⟩ := (hpu v').1 p ha
    simp only [Nat.sub_zero] at e1
    rw [e1, Array.toList_modify, map_modify (fun e : MapEntry => (e.key, e.val)) (fun e => { e with val := venc v' }) _ _ (enc k, venc v') (fun a ha => by rw [he] at ha; cases ha; rw [← hkey]), hl]
    simp [List.map_set]
theorem run_entryStore {k : K} {stamp : Int} (h : EntAt w m enc venc l k stamp) (t : TypeId) (v' : V) :
    ∃ o, (Instr.entryStore t (.map (some m)) (.int .i64 stamp) (venc v')).run P w = .ok () (w.putObj m o) ∧ MapAt (w.putObj m o) m enc venc (aput k v' l) := by
  obtain ⟨es, clock, i, hb, hi, hv, hn, hc, hl⟩ := h
  refine ⟨.map (es.modify i fun e => { e with val := venc v' }) clock, ?_, ⟨⟨_, clock, World.putObj_heap_same (heap_lt hb), hv v', by rw [born_modify es i (fun e => { e with val := venc v' }) (fun _ => rfl)]; exact hn, ?_⟩, nodup_aput k v' hl⟩⟩
  · unfold Instr.entryStore
    simp only [Sem.run_bind, run_getObj_map hb, Result.andThen_ok, asInt, asIntOf, Sem.run_pure, hi, run_setObj_map _ hb]
  · intro e he
    have : e.born ∈ (es.modify i fun e => { e with val := venc v' }).toList.map (·.born) := List.mem_map_of_mem he
    rw [born_modify es i (fun e => { e with val := venc v' }) (fun _ => rfl)] at this
    obtain ⟨y, hy, e2⟩ := List.mem_map.1 this
    rw [← e2]; exact hc y hy
end
end Go.Proofs.Yticgkbpmaakkiaa
