/-
  Forests in reading order: the list that a recursion over lists of children gives. Program-free.
-/
namespace Go.Proofs.Yticgkbpmaakkiaa

/-- A node of a list: identity, index of the parent (negative: none), depth. -/
structure Nd (I : Type) where
  id : I
  par : Int
  dep : Nat

section
variable {I : Type} (kids : I → List I)

def fol : Nat → List I → Int → Nat → Nat → List (Nd I)
  | 0, _, _, _, _ => []
  | _ + 1, [], _, _, _ => []
  | f + 1, c :: cs, p, d, k => ⟨c, p, d⟩ :: (fol f (kids c) k (d + 1) (k + 1) ++ fol (f + 1) cs p d (k + 1 + (fol f (kids c) k (d + 1) (k + 1)).length))
termination_by f cs => (f, cs.length)

theorem fol_zero (cs : List I) (p : Int) (d k : Nat) : fol kids 0 cs p d k = [] := by rw [fol]
theorem fol_nil (f : Nat) (p : Int) (d k : Nat) : fol kids f [] p d k = [] := by cases f <;> rw [fol]
theorem fol_cons (f : Nat) (c : I) (cs : List I) (p : Int) (d k : Nat) : fol kids (f + 1) (c :: cs) p d k =
    ⟨c, p, d⟩ :: (fol kids f (kids c) k (d + 1) (k + 1) ++ fol kids (f + 1) cs p d (k + 1 + (fol kids f (kids c) k (d + 1) (k + 1)).length)) := by rw [fol]

/-- f levels are enough. -/
def Fits : Nat → List I → Prop
  | 0, cs => cs = []
  | f + 1, cs => ∀ c ∈ cs, Fits f (kids c)
theorem fits_nil : ∀ f, Fits kids f []
  | 0 => rfl
  | _ + 1 => fun _ h => by cases h
theorem Fits.succ {kids : I → List I} : ∀ {f : Nat} {cs : List I}, Fits kids f cs → Fits kids (f + 1) cs
  | 0, cs, h => by rw [show cs = [] from h]; exact fits_nil _ _
  | _ + 1, _, h => fun c hc => (h c hc).succ
theorem Fits.le {kids : I → List I} {f g : Nat} {cs : List I} (h : Fits kids f cs) (hg : f ≤ g) : Fits kids g cs := by
  induction g with
  | zero => obtain rfl : f = 0 := by omega
            exact h
  | succ g ih =>
    rcases Nat.eq_or_lt_of_le hg with rfl | h2
    · exact h
    · exact (ih (by omega)).succ
theorem Fits.tail {kids : I → List I} {f : Nat} {c : I} {cs : List I} (h : Fits kids (f + 1) (c :: cs)) : Fits kids (f + 1) cs := fun x hx => h x (List.mem_cons_of_mem _ hx)

/-- More levels than enough give the same. -/
theorem fol_fuel : ∀ (f : Nat) (cs : List I) (p : Int) (d k : Nat), Fits kids f cs → fol kids (f + 1) cs p d k = fol kids f cs p d k
  | 0, cs, p, d, k, h => by rw [show cs = [] from h, fol_nil, fol_nil]
  | f + 1, [], p, d, k, h => by rw [fol_nil, fol_nil]
  | f + 1, c :: cs, p, d, k, h => by
    rw [fol_cons, fol_cons]
    rw [fol_fuel f (kids c) _ _ _ (h c (List.mem_cons_self ..)), fol_fuel (f + 1) cs _ _ _ h.tail]
termination_by f cs => (f, cs.length)
theorem fol_fuel_le {f g : Nat} {cs : List I} (p : Int) (d k : Nat) (h : Fits kids f cs) (hg : f ≤ g) : fol kids g cs p d k = fol kids f cs p d k := by
  induction g with
  | zero => obtain rfl : f = 0 := by omega
            rfl
  | succ g ih =>
    rcases Nat.eq_or_lt_of_le hg with rfl | h2
    · rfl
    · rw [fol_fuel kids g cs p d k (h.le (by omega)), ih (by omega)]

/-- The identities alone. -/
def ids : Nat → List I → List I
  | 0, _ => []
  | _ + 1, [] => []
  | f + 1, c :: cs => c :: (ids f (kids c) ++ ids (f + 1) cs)
termination_by f cs => (f, cs.length)
theorem ids_zero (cs : List I) : ids kids 0 cs = [] := by rw [ids]
theorem ids_nil (f : Nat) : ids kids f [] = [] := by cases f <;> rw [ids]
theorem ids_cons (f : Nat) (c : I) (cs : List I) : ids kids (f + 1) (c :: cs) = c :: (ids kids f (kids c) ++ ids kids (f + 1) cs) := by rw [ids]
theorem fol_ids : ∀ (f : Nat) (cs : List I) (p : Int) (d k : Nat), (fol kids f cs p d k).map (·.id) = ids kids f cs
  | 0, cs, p, d, k => by rw [fol_zero, ids_zero]; rfl
  | f + 1, [], p, d, k => by rw [fol_nil, ids_nil]; rfl
  | f + 1, c :: cs, p, d, k => by
    rw [fol_cons, ids_cons, List.map_cons, List.map_append, fol_ids f, fol_ids (f + 1)]
termination_by f cs => (f, cs.length)
theorem fol_len (f : Nat) (cs : List I) (p : Int) (d k : Nat) : (fol kids f cs p d k).length = (ids kids f cs).length := by rw [← fol_ids kids f cs p d k, List.length_map]

/-! ### ancestors by indices -/
/-- From index i parents lead to index j (or are it). -/
inductive Anc (l : List (Nd I)) : Int → Int → Prop
  | refl (i : Int) : Anc l i i
  | step {i : Nat} {n : Nd I} {j : Int} : l[i]? = some n → Anc l n.par j → Anc l i j
theorem Anc.trans {l : List (Nd I)} {i j k : Int} (h : Anc l i j) (h2 : Anc l j k) : Anc l i k := by
  induction h with
  | refl => exact h2
  | step e _ ih => exact .step e (ih h2)
theorem Anc.app {l m : List (Nd I)} {i j : Int} (h : Anc l i j) : Anc (l ++ m) i j := by
  induction h with
  | refl => exact .refl _
  | step e _ ih => exact .step (by rw [List.getElem?_append_left (List.getElem?_eq_some_iff.1 e).1]; exact e) ih

/-- A node lies well in a list. -/
structure Lies (l : List (Nd I)) (i : Nat) (n : Nd I) : Prop where
  lo : -1 ≤ n.par
  hi : n.par < i
  seq : 0 ≤ n.par → Anc l ((i : Int) - 1) n.par
  root : n.par < 0 → n.dep = 0
  down : ∀ (j : Nat) (m : Nd I), n.par = j → l[j]? = some m → n.dep = m.dep + 1
theorem Lies.app {l m : List (Nd I)} {i : Nat} {n : Nd I} (h : Lies l i n) (hi : i ≤ l.length) : Lies (l ++ m) i n :=
  ⟨h.lo, h.hi, fun h0 => (h.seq h0).app, h.root, fun j x hj hx => h.down j x hj (by rw [List.getElem?_append_left (by have := h.hi; omega)] at hx; exact hx)⟩

theorem last_idx {l : List (Nd I)} {k : Nat} (h : l.length = k + 1) : ((l.length : Int) - 1) = (k : Int) := by omega

structure Wls (l : List (Nd I)) (f : Nat) (cs : List I) (p : Int) (k i : Nat) (n : Nd I) : Prop where
  lies : Lies l i n
  kin : (n.par = p ∧ n.id ∈ cs) ∨ ∃ (j : Nat) (m : Nd I), k ≤ j ∧ j < i ∧ l[j]? = some m ∧ n.par = j ∧ n.id ∈ kids m.id
  anc : 0 ≤ p → Anc l i p
  next : Fits kids f cs → ∀ x xs, kids n.id = x :: xs → ∃ m, l[i + 1]? = some m ∧ m.id = x ∧ m.par = i

theorem Wls.app {l m : List (Nd I)} {f : Nat} {cs : List I} {p : Int} {k i : Nat} {n : Nd I} (h : Wls kids l f cs p k i n) (hi : i < l.length) : Wls kids (l ++ m) f cs p k i n :=
  ⟨h.lies.app (by omega), h.kin.imp id (fun ⟨j, x, h1, h2, h3, h4, h5⟩ => ⟨j, x, h1, h2, by rw [List.getElem?_append_left (by omega)]; exact h3, h4, h5⟩), fun h0 => (h.anc h0).app,
    fun hf x xs hx => by
      obtain ⟨y, h1, h2⟩ := h.next hf x xs hx
      exact ⟨y, by rw [List.getElem?_append_left (List.getElem?_eq_some_iff.1 h1).1]; exact h1, h2⟩⟩

theorem fol_spec : ∀ (f : Nat) (cs : List I) (p : Int) (d k : Nat) (pre : List (Nd I)), pre.length = k →
    ((p = -1 ∧ d = 0) ∨ (0 ≤ p ∧ p < k ∧ (∀ (j : Nat) (m : Nd I), p = j → pre[j]? = some m → d = m.dep + 1) ∧ Anc pre ((k : Int) - 1) p)) →
    ∀ (i : Nat) (n : Nd I), (fol kids f cs p d k)[i]? = some n → Wls kids (pre ++ fol kids f cs p d k) f cs p k (k + i) n
  | 0, cs, p, d, k, pre, hk, hp, i, n, hn => by rw [fol_zero] at hn; cases hn
  | f + 1, [], p, d, k, pre, hk, hp, i, n, hn => by rw [fol_nil] at hn; cases hn
  | f + 1, c :: cs, p, d, k, pre, hk, hp, i, n, hn => by
    rw [fol_cons] at hn ⊢
    obtain ⟨sub, hsub⟩ : ∃ sub, sub = fol kids f (kids c) k (d + 1) (k + 1) := ⟨_, rfl⟩
    rw [← hsub] at hn ⊢
    obtain ⟨rest, hrest⟩ : ∃ rest, rest = fol kids (f + 1) cs p d (k + 1 + sub.length) := ⟨_, rfl⟩
    rw [← hrest] at hn ⊢
    obtain ⟨me, hme⟩ : ∃ me : Nd I, me = ⟨c, p, d⟩ := ⟨_, rfl⟩
    rw [← hme] at hn ⊢
    have hL : pre ++ me :: (sub ++ rest) = (pre ++ [me]) ++ sub ++ rest := by simp
    have hpl : (pre ++ [me]).length = k + 1 := by simp [hk]
    have hmk : (pre ++ [me])[k]? = some me := by rw [List.getElem?_append_right (by omega), hk]; simp
    have hsubw : ∀ (i : Nat) (n : Nd I), sub[i]? = some n → Wls kids ((pre ++ [me]) ++ sub) f (kids c) k (k + 1) (k + 1 + i) n := by
      intro i n hn
      have hc : (((k : Nat) : Int) = -1 ∧ d + 1 = 0) ∨ (0 ≤ ((k : Nat) : Int) ∧ ((k : Nat) : Int) < ((k + 1 : Nat) : Int) ∧ (∀ (j : Nat) (m : Nd I), (k : Int) = j → (pre ++ [me])[j]? = some m → d + 1 = m.dep + 1) ∧ Anc (pre ++ [me]) (((k + 1 : Nat) : Int) - 1) k) := by
        refine .inr ⟨by omega, by omega, fun j m hj hm => ?_, ?_⟩
        · obtain rfl : k = j := by omega
          rw [hmk] at hm
          rw [← Option.some.inj hm, hme]
        · rw [show (((k + 1 : Nat) : Int) - 1) = (k : Int) by omega]; exact .refl _
      have := fol_spec f (kids c) (k : Int) (d + 1) (k + 1) (pre ++ [me]) hpl hc i n (by rw [← hsub]; exact hn)
      rw [← hsub] at this
      exact this
    have hap : 0 ≤ p → Anc (pre ++ [me]) k p := fun _ => .step hmk (by rw [hme]; exact .refl _)
    have hrestw : ∀ (i : Nat) (n : Nd I), rest[i]? = some n → Wls kids (((pre ++ [me]) ++ sub) ++ rest) (f + 1) cs p (k + 1 + sub.length) (k + 1 + sub.length + i) n := by
      intro i n hn
      have hlen : ((pre ++ [me]) ++ sub).length = k + 1 + sub.length := by rw [List.length_append, hpl]
      have hc : (p = -1 ∧ d = 0) ∨ (0 ≤ p ∧ p < ((k + 1 + sub.length : Nat) : Int) ∧ (∀ (j : Nat) (m : Nd I), p = j → ((pre ++ [me]) ++ sub)[j]? = some m → d = m.dep + 1) ∧ Anc ((pre ++ [me]) ++ sub) (((k + 1 + sub.length : Nat) : Int) - 1) p) := by
        rcases hp with hp | ⟨h0, h1, h2, h3⟩
        · exact .inl hp
        · refine .inr ⟨h0, by omega, fun j m hj hm => h2 j m hj ?_, ?_⟩
          · rw [List.append_assoc, List.getElem?_append_left (by omega)] at hm; exact hm
          · rcases Nat.eq_zero_or_pos sub.length with hs | hs
            · rw [hs, show (((k + 1 + 0 : Nat) : Int) - 1) = (k : Int) by omega]; exact (hap h0).app
            · obtain ⟨x, hx⟩ : ∃ x, sub[sub.length - 1]? = some x := ⟨_, List.getElem?_eq_getElem (by omega)⟩
              have := (hsubw _ _ hx).anc (by omega)
              rw [show (((k + 1 + sub.length : Nat) : Int) - 1) = ((k + 1 + (sub.length - 1) : Nat) : Int) by omega]
              exact this.trans ((hap h0).app)
      have := fol_spec (f + 1) cs p d (k + 1 + sub.length) ((pre ++ [me]) ++ sub) hlen hc i n (by rw [← hrest]; exact hn)
      rw [← hrest] at this
      exact this
    rw [hL]
    rcases i with _ | i
    · rw [List.getElem?_cons_zero] at hn
      obtain rfl : me = n := Option.some.inj hn
      refine ⟨?_, .inl ⟨by rw [hme], by rw [hme]; exact List.mem_cons_self ..⟩, fun h0 => ((hap h0).app).app, fun hf x xs hx => ?_⟩
      · refine Lies.app (Lies.app ?_ (by rw [hpl]; omega)) (by rw [List.length_append, hpl]; omega)
        refine Lies.app ?_ (by omega)
        rcases hp with ⟨h0, h1⟩ | ⟨h0, h1, h2, h3⟩
        · rw [hme]; exact ⟨by show -1 ≤ p; omega, by show p < _; omega, fun h => by exfalso; have : 0 ≤ p := h; omega, fun _ => h1, fun j m hj => by exfalso; have : p = j := hj; omega⟩
        · rw [hme]; exact ⟨by show -1 ≤ p; omega, h1, fun _ => h3, fun h => by exfalso; have : p < 0 := h; omega, fun j m hj hm => h2 j m hj hm⟩
      · have hfc := hf c (List.mem_cons_self ..)
        have hx' : kids c = x :: xs := by rw [hme] at hx; exact hx
        rw [hx'] at hfc
        obtain ⟨f', rfl⟩ : ∃ f', f = f' + 1 := by
          cases f with
          | zero => exact absurd (show x :: xs = [] from hfc) (by simp)
          | succ f' => exact ⟨f', rfl⟩
        have hs0 : sub[0]? = some ⟨x, k, d + 1⟩ := by rw [hsub, hx', fol_cons]; rfl
        refine ⟨⟨x, k, d + 1⟩, ?_, rfl, by simp⟩
        have hl0 := (List.getElem?_eq_some_iff.1 hs0).1
        rw [List.getElem?_append_left (by simp [hk]; omega), List.getElem?_append_right (by simp [hk]), hpl, show k + 0 + 1 - (k + 1) = 0 by omega]
        exact hs0
    · rw [List.getElem?_cons_succ] at hn
      by_cases his : i < sub.length
      · rw [List.getElem?_append_left his] at hn
        have hw := hsubw i n hn
        rw [show k + (i + 1) = k + 1 + i by omega]
        refine Wls.app kids ?_ (by rw [List.length_append, hpl]; omega)
        refine ⟨hw.lies, ?_, fun h0 => (hw.anc (by omega)).trans ((hap h0).app), fun hf => hw.next (hf c (List.mem_cons_self ..))⟩
        rcases hw.kin with ⟨h1, h2⟩ | ⟨j, m, h1, h2, h3, h4, h5⟩
        · exact .inr ⟨k, me, Nat.le_refl _, by omega, by rw [List.getElem?_append_left (by omega)]; exact hmk, h1, by rw [hme]; exact h2⟩
        · exact .inr ⟨j, m, by omega, h2, h3, h4, h5⟩
      · rw [List.getElem?_append_right (by omega)] at hn
        have hw := hrestw (i - sub.length) n hn
        rw [show k + (i + 1) = k + 1 + sub.length + (i - sub.length) by omega]
        refine ⟨hw.lies, ?_, hw.anc, fun hf => hw.next hf.tail⟩
        rcases hw.kin with ⟨h1, h2⟩ | ⟨j, m, h1, h2, h3, h4, h5⟩
        · exact .inl ⟨h1, List.mem_cons_of_mem _ h2⟩
        · exact .inr ⟨j, m, by omega, h2, h3, h4, h5⟩
termination_by f cs => (f, cs.length)
end
end Go.Proofs.Yticgkbpmaakkiaa
