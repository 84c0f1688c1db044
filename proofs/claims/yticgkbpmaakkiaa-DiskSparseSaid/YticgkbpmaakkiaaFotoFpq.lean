/-
  Forests in reading order: the list that a recursion over lists of children gives. Program-free.
  Forests: every node occurs once in the reading order, if parents lead to no cycle. Program-free.
-/

namespace Go.Proofs.Yticgkbpmaakkiaa

/-- A node of a list: identity, index of the parent (negative: none), depth. -/
structure Nd (I : Type) where
  id : I
  par : Int
  dep : Nat

section
variable {I : Type} (kids : I → List I)

def fol : Nat → List I → Int → Nat → Nat → List (Nd I)
  | 0, _, _, _, _ => []
  | _ + 1, [], _, _, _ => []
  | f + 1, c :: cs, p, d, k => ⟨c, p, d⟩ :: (fol f (kids c) k (d + 1) (k + 1) ++ fol (f + 1) cs p d (k + 1 + (fol f (kids c) k (d + 1) (k + 1)).length))
termination_by f cs => (f, cs.length)

theorem fol_zero (cs : List I) (p : Int) (d k : Nat) : fol kids 0 cs p d k = [] := by rw [fol]
theorem fol_nil (f : Nat) (p : Int) (d k : Nat) : fol kids f [] p d k = [] := by cases f <;> rw [fol]
theorem fol_cons (f : Nat) (c : I) (cs : List I) (p : Int) (d k : Nat) : fol kids (f + 1) (c :: cs) p d k =
    ⟨c, p, d⟩ :: (fol kids f (kids c) k (d + 1) (k + 1) ++ fol kids (f + 1) cs p d (k + 1 + (fol kids f (kids c) k (d + 1) (k + 1)).length)) := by rw [fol]

/-- f levels are enough. -/
def Fits : Nat → List I → Prop
  | 0, cs => cs = []
  | f + 1, cs => ∀ c ∈ cs, Fits f (kids c)
theorem fits_nil : ∀ f, Fits kids f []
  | 0 => rfl
  | _ + 1 => fun _ h => by cases h
theorem Fits.succ {kids : I → List I} : ∀ {f : Nat} {cs : List I}, Fits kids f cs → Fits kids (f + 1) cs
  | 0, cs, h => by rw [show cs = [] from h]; exact fits_nil _ _
  | _ + 1, _, h => fun c hc => (h c hc).succ
theorem Fits.le {kids : I → List I} {f g : Nat} {cs : List I} (h : Fits kids f cs) (hg : f ≤ g) : Fits kids g cs := by
  induction g with
  | zero => obtain rfl : f = 0 := by omega
            exact h
  | succ g ih =>
    rcases Nat.eq_or_lt_of_le hg with rfl | h2
    · exact h
    · exact (ih (by omega)).succ
theorem Fits.tail {kids : I → List I} {f : Nat} {c : I} {cs : List I} (h : Fits kids (f + 1) (c :: cs)) : Fits kids (f + 1) cs := fun x hx => h x (List.mem_cons_of_mem _ hx)

/-- More levels than enough give the same. -/
theorem fol_fuel : ∀ (f : Nat) (cs : List I) (p : Int) (d k : Nat), Fits kids f cs → fol kids (f + 1) cs p d k = fol kids f cs p d k
  | 0, cs, p, d, k, h => by rw [show cs = [] from h, fol_nil, fol_nil]
  | f + 1, [], p, d, k, h => by rw [fol_nil, fol_nil]
  | f + 1, c :: cs, p, d, k, h => by
    rw [fol_cons, fol_cons]
    rw [fol_fuel f (kids c) _ _ _ (h c (List.mem_cons_self ..)), fol_fuel (f + 1) cs _ _ _ h.tail]
termination_by f cs => (f, cs.length)
theorem fol_fuel_le {f g : Nat} {cs : List I} (p : Int) (d k : Nat) (h : Fits kids f cs) (hg : f ≤ g) : fol kids g cs p d k = fol kids f cs p d k := by
  induction g with
  | zero => obtain rfl : f = 0 := by omega
            rfl
  | succ g ih =>
    rcases Nat.eq_or_lt_of_le hg with rfl | h2
    · rfl
    · rw [fol_fuel kids g cs p d k (h.le (by omega)), ih (by omega)]

/-- The identities alone. -/
def ids : Nat → List I → List I
  | 0, _ => []
  | _ + 1, [] => []
  | f + 1, c :: cs => c :: (ids f (kids c) ++ ids (f + 1) cs)
termination_by f cs => (f, cs.length)
theorem ids_zero (cs : List I) : ids kids 0 cs = [] := by rw [ids]
theorem ids_nil (f : Nat) : ids kids f [] = [] := by cases f <;> rw [ids]
theorem ids_cons (f : Nat) (c : I) (cs : List I) : ids kids (f + 1) (c :: cs) = c :: (ids kids f (kids c) ++ ids kids (f + 1) cs) := by rw [ids]
theorem fol_ids : ∀ (f : Nat) (cs : List I) (p : Int) (d k : Nat), (fol kids f cs p d k).map (·.id) = ids kids f cs
  | 0, cs, p, d, k => by rw [fol_zero, ids_zero]; rfl
  | f + 1, [], p, d, k => by rw [fol_nil, ids_nil]; rfl
  | f + 1, c :: cs, p, d, k => by
    rw [fol_cons, ids_cons, List.map_cons, List.map_append, fol_ids f, fol_ids (f + 1)]
termination_by f cs => (f, cs.length)
theorem fol_len (f : Nat) (cs : List I) (p : Int) (d k : Nat) : (fol kids f cs p d k).length = (ids kids f cs).length := by rw [← fol_ids kids f cs p d k, List.length_map]

/-! ### ancestors by indices -/
/-- From index i parents lead to index j (or are it). -/
inductive Anc (l : List (Nd I)) : Int → Int → Prop
  | refl (i : Int) : Anc l i i
  | step {i : Nat} {n : Nd I} {j : Int} : l[i]? = some n → Anc l n.par j → Anc l i j
theorem Anc.trans {l : List (Nd I)} {i j k : Int} (h : Anc l i j) (h2 : Anc l j k) : Anc l i k := by
  induction h with
  | refl => exact h2
  | step e _ ih => exact .step e (ih h2)
theorem Anc.app {l m : List (Nd I)} {i j : Int} (h : Anc l i j) : Anc (l ++ m) i j := by
  induction h with
  | refl => exact .refl _
  | step e _ ih => exact .step (by rw [List.getElem?_append_left (List.getElem?_eq_some_iff.1 e).1]; exact e) ih

/-- A node lies well in a list. -/
structure Lies (l : List (Nd I)) (i : Nat) (n : Nd I) : Prop where
  lo : -1 ≤ n.par
  hi : n.par < i
  seq : 0 ≤ n.par → Anc l ((i : Int) - 1) n.par
  root : n.par < 0 → n.dep = 0
  down : ∀ (j : Nat) (m : Nd I), n.par = j → l[j]? = some m → n.dep = m.dep + 1
theorem Lies.app {l m : List (Nd I)} {i : Nat} {n : Nd I} (h : Lies l i n) (hi : i ≤ l.length) : Lies (l ++ m) i n :=
  ⟨h.lo, h.hi, fun h0 => (h.seq h0).app, h.root, fun j x hj hx => h.down j x hj (by rw [List.getElem?_append_left (by have := h.hi; omega)] at hx; exact hx)⟩

theorem last_idx {l : List (Nd I)} {k : Nat} (h : l.length = k + 1) : ((l.length : Int) - 1) = (k : Int) := by omega

structure Wls (l : List (Nd I)) (f : Nat) (cs : List I) (p : Int) (k i : Nat) (n : Nd I) : Prop where
  lies : Lies l i n
  kin : (n.par = p ∧ n.id ∈ cs) ∨ ∃ (j : Nat) (m : Nd I), k ≤ j ∧ j < i ∧ l[j]? = some m ∧ n.par = j ∧ n.id ∈ kids m.id
  anc : 0 ≤ p → Anc l i p
  next : Fits kids f cs → ∀ x xs, kids n.id = x :: xs → ∃ m, l[i + 1]? = some m ∧ m.id = x ∧ m.par = i

theorem Wls.app {l m : List (Nd I)} {f : Nat} {cs : List I} {p : Int} {k i : Nat} {n : Nd I} (h : Wls kids l f cs p k i n) (hi : i < l.length) : Wls kids (l ++ m) f cs p k i n :=
  ⟨h.lies.app (by omega), h.kin.imp id (fun ⟨j, x, h1, h2, h3, h4, h5⟩ => ⟨j, x, h1, h2, by rw [List.getElem?_append_left (by omega)]; exact h3, h4, h5⟩), fun h0 => (h.anc h0).app,
    fun hf x xs hx => by
      obtain ⟨y, h1, h2⟩ := h.next hf x xs hx
      exact ⟨y, by rw [List.getElem?_append_left (List.getElem?_eq_some_iff.1 h1).1]; exact h1, h2⟩⟩

theorem fol_spec : ∀ (f : Nat) (cs : List I) (p : Int) (d k : Nat) (pre : List (Nd I)), pre.length = k →
    ((p = -1 ∧ d = 0) ∨ (0 ≤ p ∧ p < k ∧ (∀ (j : Nat) (m : Nd I), p = j → pre[j]? = some m → d = m.dep + 1) ∧ Anc pre ((k : Int) - 1) p)) →
    ∀ (i : Nat) (n : Nd I), (fol kids f cs p d k)[i]? = some n → Wls kids (pre ++ fol kids f cs p d k) f cs p k (k + i) n
  | 0, cs, p, d, k, pre, hk, hp, i, n, hn => by rw [fol_zero] at hn; cases hn
  | f + 1, [], p, d, k, pre, hk, hp, i, n, hn => by rw [fol_nil] at hn; cases hn
  | f + 1, c :: cs, p, d, k, pre, hk, hp, i, n, hn => by
    rw [fol_cons] at hn ⊢
    obtain ⟨sub, hsub⟩ : ∃ sub, sub = fol kids f (kids c) k (d + 1) (k + 1) := ⟨_, rfl⟩
    rw [← hsub] at hn ⊢
    obtain ⟨rest, hrest⟩ : ∃ rest, rest = fol kids (f + 1) cs p d (k + 1 + sub.length) := ⟨_, rfl⟩
    rw [← hrest] at hn ⊢
    obtain ⟨me, hme⟩ : ∃ me : Nd I, me = ⟨c, p, d⟩ := ⟨_, rfl⟩
    rw [← hme] at hn ⊢
    have hL : pre ++ me :: (sub ++ rest) = (pre ++ [me]) ++ sub ++ rest := by simp
    have hpl : (pre ++ [me]).length = k + 1 := by simp [hk]
    have hmk : (pre ++ [me])[k]? = some me := by rw [List.getElem?_append_right (by omega), hk]; simp
    have hsubw : ∀ (i : Nat) (n : Nd I), sub[i]? = some n → Wls kids ((pre ++ [me]) ++ sub) f (kids c) k (k + 1) (k + 1 + i) n := by
      intro i n hn
      have hc : (((k : Nat) : Int) = -1 ∧ d + 1 = 0) ∨ (0 ≤ ((k : Nat) : Int) ∧ ((k : Nat) : Int) < ((k + 1 : Nat) : Int) ∧ (∀ (j : Nat) (m : Nd I), (k : Int) = j → (pre ++ [me])[j]? = some m → d + 1 = m.dep + 1) ∧ Anc (pre ++ [me]) (((k + 1 : Nat) : Int) - 1) k) := by
        refine .inr ⟨by omega, by omega, fun j m hj hm => ?_, ?_⟩
        · obtain rfl : k = j := by omega
          rw [hmk] at hm
          rw [← Option.some.inj hm, hme]
        · rw [show (((k + 1 : Nat) : Int) - 1) = (k : Int) by omega]; exact .refl _
      have := fol_spec f (kids c) (k : Int) (d + 1) (k + 1) (pre ++ [me]) hpl hc i n (by rw [← hsub]; exact hn)
      rw [← hsub] at this
      exact this
    have hap : 0 ≤ p → Anc (pre ++ [me]) k p := fun _ => .step hmk (by rw [hme]; exact .refl _)
    have hrestw : ∀ (i : Nat) (n : Nd I), rest[i]? = some n → Wls kids (((pre ++ [me]) ++ sub) ++ rest) (f + 1) cs p (k + 1 + sub.length) (k + 1 + sub.length + i) n := by
      intro i n hn
      have hlen : ((pre ++ [me]) ++ sub).length = k + 1 + sub.length := by rw [List.length_append, hpl]
      have hc : (p = -1 ∧ d = 0) ∨ (0 ≤ p ∧ p < ((k + 1 + sub.length : Nat) : Int) ∧ (∀ (j : Nat) (m : Nd I), p = j → ((pre ++ [me]) ++ sub)[j]? = some m → d = m.dep + 1) ∧ Anc ((pre ++ [me]) ++ sub) (((k + 1 + sub.length : Nat) : Int) - 1) p) := by
        rcases hp with hp | ⟨h0, h1, h2, h3⟩
        · exact .inl hp
        · refine .inr ⟨h0, by omega, fun j m hj hm => h2 j m hj ?_, ?_⟩
          · rw [List.append_assoc, List.getElem?_append_left (by omega)] at hm; exact hm
          · rcases Nat.eq_zero_or_pos sub.length with hs | hs
            · rw [hs, show (((k + 1 + 0 : Nat) : Int) - 1) = (k : Int) by omega]; exact (hap h0).app
            · obtain ⟨x, hx⟩ : ∃ x, sub[sub.length - 1]? = some x := ⟨_, List.getElem?_eq_getElem (by omega)⟩
              have := (hsubw _ _ hx).anc (by omega)
              rw [show (((k + 1 + sub.length : Nat) : Int) - 1) = ((k + 1 + (sub.length - 1) : Nat) : Int) by omega]
              exact this.trans ((hap h0).app)
      have := fol_spec (f + 1) cs p d (k + 1 + sub.length) ((pre ++ [me]) ++ sub) hlen hc i n (by rw [← hrest]; exact hn)
      rw [← hrest] at this
      exact this
    rw [hL]
    rcases i with _ | i
    · rw [List.getElem?_cons_zero] at hn
      obtain rfl : me = n := Option.some.inj hn
      refine ⟨?_, .inl ⟨by rw [hme], by rw [hme]; exact List.mem_cons_self ..⟩, fun h0 => ((hap h0).app).app, fun hf x xs hx => ?_⟩
      · refine Lies.app (Lies.app ?_ (by rw [hpl]; omega)) (by rw [List.length_append, hpl]; omega)
        refine Lies.app ?_ (by omega)
        rcases hp with ⟨h0, h1⟩ | ⟨h0, h1, h2, h3⟩
        · rw [hme]; exact ⟨by show -1 ≤ p; omega, by show p < _; omega, fun h => by exfalso; have : 0 ≤ p := h; omega, fun _ => h1, fun j m hj => by exfalso; have : p = j := hj; omega⟩
        · rw [hme]; exact ⟨by show -1 ≤ p; omega, h1, fun _ => h3, fun h => by exfalso; have : p < 0 := h; omega, fun j m hj hm => h2 j m hj hm⟩
      · have hfc := hf c (List.mem_cons_self ..)
        have hx' : kids c = x :: xs := by rw [hme] at hx; exact hx
        rw [hx'] at hfc
        obtain ⟨f', rfl⟩ : ∃ f', f = f' + 1 := by
          cases f with
          | zero => exact absurd (show x :: xs = [] from hfc) (by simp)
          | succ f' => exact ⟨f', rfl⟩
        have hs0 : sub[0]? = some ⟨x, k, d + 1⟩ := by rw [hsub, hx', fol_cons]; rfl
        refine ⟨⟨x, k, d + 1⟩, ?_, rfl, by simp⟩
        have hl0 := (List.getElem?_eq_some_iff.1 hs0).1
        rw [List.getElem?_append_left (by simp [hk]; omega), List.getElem?_append_right (by simp [hk]), hpl, show k + 0 + 1 - (k + 1) = 0 by omega]
        exact hs0
    · rw [List.getElem?_cons_succ] at hn
      by_cases his : i < sub.length
      · rw [List.getElem?_append_left his] at hn
        have hw := hsubw i n hn
        rw [show k + (i + 1) = k + 1 + i by omega]
        refine Wls.app kids ?_ (by rw [List.length_append, hpl]; omega)
        refine ⟨hw.lies, ?_, fun h0 => (hw.anc (by omega)).trans ((hap h0).app), fun hf => hw.next (hf c (List.mem_cons_self ..))⟩
        rcases hw.kin with ⟨h1, h2⟩ | ⟨j, m, h1, h2, h3, h4, h5⟩
        · exact .inr ⟨k, me, Nat.le_refl _, by omega, by rw [List.getElem?_append_left (by omega)]; exact hmk, h1, by rw [hme]; exact h2⟩
        · exact .inr ⟨j, m, by omega, h2, h3, h4, h5⟩
      · rw [List.getElem?_append_right (by omega)] at hn
        have hw := hrestw (i - sub.length) n hn
        rw [show k + (i + 1) = k + 1 + sub.length + (i - sub.length) by omega]
        refine ⟨hw.lies, ?_, hw.anc, fun hf => hw.next hf.tail⟩
        rcases hw.kin with ⟨h1, h2⟩ | ⟨j, m, h1, h2, h3, h4, h5⟩
        · exact .inl ⟨h1, List.mem_cons_of_mem _ h2⟩
        · exact .inr ⟨j, m, by omega, h2, h3, h4, h5⟩
termination_by f cs => (f, cs.length)
end
end Go.Proofs.Yticgkbpmaakkiaa

namespace Go.Proofs.Yticgkbpmaakkiaa

section
variable {I : Type}

/-! ### parents -/
/-- n parents up. -/
def up (par : I → Option I) : Nat → I → Option I
  | 0, x => some x
  | n + 1, x => (up par n x).bind par
theorem up_succ (par : I → Option I) (n : Nat) (x : I) : up par (n + 1) x = (par x).bind (up par n) := by
  induction n with
  | zero => show (some x).bind par = _; cases h : par x <;> simp [up, h]
  | succ n ih =>
    show (up par (n + 1) x).bind par = _
    rw [ih]
    cases par x with
    | none => rfl
    | some p => rfl
theorem up_add (par : I → Option I) (m n : Nat) (x : I) : up par (m + n) x = (up par n x).bind (up par m) := by
  induction m with
  | zero =>
    rw [Nat.zero_add]
    cases up par n x <;> rfl
  | succ m ih =>
    rw [show m + 1 + n = (m + n) + 1 by omega]
    show (up par (m + n) x).bind par = _
    rw [ih]
    cases up par n x <;> rfl
def NoCyc (par : I → Option I) : Prop := ∀ n x, up par (n + 1) x ≠ some x

/-- Pigeonhole. -/
theorem nodup_len : ∀ (l m : List I), l.Nodup → (∀ x ∈ l, x ∈ m) → l.length ≤ m.length
  | [], _, _, _ => Nat.zero_le _
  | x :: l, m, hn, hs => by
    obtain ⟨m1, m2, rfl⟩ := List.append_of_mem (hs x (List.mem_cons_self ..))
    have hn' := List.nodup_cons.1 hn
    have := nodup_len l (m1 ++ m2) hn'.2 (fun y hy => by
      have := hs y (List.mem_cons_of_mem _ hy)
      simp only [List.mem_append, List.mem_cons] at this ⊢
      rcases this with h | h | h
      · exact .inl h
      · subst h; exact absurd hy hn'.1
      · exact .inr h)
    simp at this ⊢
    omega

/-- A chain without repetition ends within the nodes. -/
theorem up_none {par : I → Option I} (hc : NoCyc par) {ns : List I} (hcl : ∀ x p, x ∈ ns → par x = some p → p ∈ ns) {x : I} (hx : x ∈ ns) : up par ns.length x = none := by
  cases hu : up par ns.length x with
  | none => rfl
  | some z =>
    exfalso
    have hall : ∀ n, n ≤ ns.length → ∃ y, up par n x = some y ∧ y ∈ ns := by
      intro n
      induction n with
      | zero => exact fun _ => ⟨x, rfl, hx⟩
      | succ n ih =>
        intro hn
        obtain ⟨y, h1, h2⟩ := ih (by omega)
        cases hp : par y with
        | none =>
          exfalso
          have h3 : up par (n + 1) x = none := by show (up par n x).bind par = none; rw [h1]; exact hp
          rw [show ns.length = (ns.length - (n + 1)) + (n + 1) by omega, up_add, h3] at hu
          cases hu
        | some p => exact ⟨p, by show (up par n x).bind par = some p; rw [h1]; exact hp, hcl y p h2 hp⟩
    have hl : ((List.range (ns.length + 1)).map fun n => (up par n x).getD x).Nodup := by
      rw [List.nodup_iff_pairwise_ne, List.pairwise_map]
      have hr : (List.range (ns.length + 1)).Pairwise (· < ·) := List.pairwise_lt_range
      refine hr.imp_of_mem ?_
      intro i j hi hj hij e
      have hi' := List.mem_range.1 hi
      have hj' := List.mem_range.1 hj
      obtain ⟨y, h1, _⟩ := hall i (by omega)
      obtain ⟨y', h2, _⟩ := hall j (by omega)
      rw [h1, h2] at e
      have e : y = y' := e
      subst e
      rw [show j = (j - i - 1 + 1) + i by omega, up_add, h1] at h2
      exact hc _ _ h2
    have := nodup_len _ ns hl (fun y hy => by
      obtain ⟨n, hn, rfl⟩ := List.mem_map.1 hy
      obtain ⟨y, h1, h2⟩ := hall n (by have := List.mem_range.1 hn; omega)
      rw [h1]; exact h2)
    simp at this
    omega

/-- The level of a node, looked for through B parents. -/
def lvl (par : I → Option I) : Nat → I → Nat
  | 0, _ => 0
  | b + 1, x => match par x with
    | none => 0
    | some p => lvl par b p + 1
theorem lvl_eq {par : I → Option I} : ∀ (b : Nat) (x : I), up par b x = none → (∀ p, par x = some p → lvl par b x = lvl par b p + 1) ∧ (par x = none → lvl par b x = 0) ∧ lvl par b x < b
  | 0, x, h => by cases h
  | b + 1, x, h => by
    rw [up_succ] at h
    refine ⟨fun p hp => ?_, fun hp => by simp [lvl, hp], ?_⟩
    · rw [hp] at h
      have h : up par b p = none := h
      have ih := lvl_eq b p h
      show (match par x with | none => 0 | some p => lvl par b p + 1) = _
      rw [hp]
      show lvl par b p + 1 = lvl par (b + 1) p + 1
      congr 1
      have : ∀ (c : Nat) (y : I), up par c y = none → lvl par c y = lvl par (c + 1) y := by
        intro c
        induction c with
        | zero => intro y hy; cases hy
        | succ c ihc =>
          intro y hy
          rw [up_succ] at hy
          show (match par y with | none => 0 | some p => lvl par c p + 1) = (match par y with | none => 0 | some p => lvl par (c + 1) p + 1)
          cases hq : par y with
          | none => rfl
          | some q => rw [hq] at hy; show lvl par c q + 1 = lvl par (c + 1) q + 1; rw [ihc q hy]
      exact this b p h
    · show (match par x with | none => 0 | some p => lvl par b p + 1) < b + 1
      cases hp : par x with
      | none => exact Nat.succ_pos b
      | some p =>
        rw [hp] at h
        have := (lvl_eq b p h).2.2
        show lvl par b p + 1 < b + 1
        omega

/-! ### the forest -/
structure Forest (par : I → Option I) (ns : List I) (roots : List I) (kids : I → List I) : Prop where
  nocyc : NoCyc par
  closed : ∀ x p, x ∈ ns → par x = some p → p ∈ ns
  hroots : ∀ x, x ∈ roots ↔ x ∈ ns ∧ par x = none
  hkids : ∀ x p, x ∈ kids p ↔ x ∈ ns ∧ par x = some p
  ndr : roots.Nodup
  ndk : ∀ p, (kids p).Nodup

variable {par : I → Option I} {ns roots : List I} {kids : I → List I}

theorem Forest.up (h : Forest par ns roots kids) {x : I} (hx : x ∈ ns) : up par ns.length x = none := up_none h.nocyc h.closed hx

theorem Forest.fits' (h : Forest par ns roots kids) : ∀ (f : Nat) (cs : List I), (∀ c ∈ cs, c ∈ ns ∧ ns.length ≤ lvl par ns.length c + f) → Fits kids f cs
  | 0, [], _ => rfl
  | 0, c :: cs, hc => by
    obtain ⟨h1, h2⟩ := hc c (List.mem_cons_self ..)
    have := (lvl_eq _ _ (h.up h1)).2.2
    omega
  | f + 1, cs, hc => fun c hcc => by
    obtain ⟨h1, h2⟩ := hc c hcc
    refine h.fits' f (kids c) (fun x hx => ?_)
    obtain ⟨h3, h4⟩ := (h.hkids x c).1 hx
    have := (lvl_eq _ _ (h.up h3)).1 c h4
    exact ⟨h3, by omega⟩
theorem Forest.fits (h : Forest par ns roots kids) : Fits kids ns.length roots := h.fits' _ _ (fun c hc => ⟨((h.hroots c).1 hc).1, by omega⟩)

theorem Forest.inside (h : Forest par ns roots kids) : ∀ (f : Nat) (cs : List I), (∀ c ∈ cs, c ∈ ns) → ∀ x ∈ ids kids f cs, x ∈ ns
  | 0, cs, _, x, hx => by rw [ids_zero] at hx; cases hx
  | f + 1, [], _, x, hx => by rw [ids_nil] at hx; cases hx
  | f + 1, c :: cs, hc, x, hx => by
    rw [ids_cons] at hx
    rcases List.mem_cons.1 hx with rfl | hx
    · exact hc _ (List.mem_cons_self ..)
    · rcases List.mem_append.1 hx with hx | hx
      · exact h.inside f (kids c) (fun y hy => ((h.hkids y c).1 hy).1) x hx
      · exact h.inside (f + 1) cs (fun y hy => hc y (List.mem_cons_of_mem _ hy)) x hx
termination_by f cs => (f, cs.length)

/-- What stands below cs: from each node some parents lead into cs. -/
theorem Forest.below (h : Forest par ns roots kids) (d : Nat) : ∀ (f : Nat) (cs : List I), (∀ c ∈ cs, c ∈ ns ∧ lvl par ns.length c = d) → ∀ x ∈ ids kids f cs, d ≤ lvl par ns.length x ∧ ∃ c ∈ cs, Go.Proofs.Yticgkbpmaakkiaa.up par (lvl par ns.length x - d) x = some c
  | 0, cs, _, x, hx => by rw [ids_zero] at hx; cases hx
  | f + 1, [], _, x, hx => by rw [ids_nil] at hx; cases hx
  | f + 1, c :: cs, hc, x, hx => by
    rw [ids_cons] at hx
    obtain ⟨hc1, hc2⟩ := hc c (List.mem_cons_self ..)
    rcases List.mem_cons.1 hx with rfl | hx
    · exact ⟨by omega, x, List.mem_cons_self .., by rw [hc2, Nat.sub_self]; rfl⟩
    · rcases List.mem_append.1 hx with hx | hx
      · have hk : ∀ y ∈ kids c, y ∈ ns ∧ lvl par ns.length y = d + 1 := fun y hy => by
          obtain ⟨h1, h2⟩ := (h.hkids y c).1 hy
          exact ⟨h1, by rw [(lvl_eq _ _ (h.up h1)).1 c h2, hc2]⟩
        obtain ⟨h1, y, h2, h3⟩ := h.below (d + 1) f (kids c) hk x hx
        refine ⟨by omega, c, List.mem_cons_self .., ?_⟩
        rw [show lvl par ns.length x - d = (lvl par ns.length x - (d + 1)) + 1 by omega]
        show (Go.Proofs.Yticgkbpmaakkiaa.up par (lvl par ns.length x - (d + 1)) x).bind par = some c
        rw [h3]
        exact ((h.hkids y c).1 h2).2
      · obtain ⟨h1, y, h2, h3⟩ := h.below d (f + 1) cs (fun y hy => hc y (List.mem_cons_of_mem _ hy)) x hx
        exact ⟨h1, y, List.mem_cons_of_mem _ h2, h3⟩
termination_by f cs => (f, cs.length)

theorem Forest.nodup' (h : Forest par ns roots kids) (d : Nat) : ∀ (f : Nat) (cs : List I), cs.Nodup → (∀ c ∈ cs, c ∈ ns ∧ lvl par ns.length c = d) → (ids kids f cs).Nodup
  | 0, cs, _, _ => by rw [ids_zero]; exact List.nodup_nil
  | f + 1, [], _, _ => by rw [ids_nil]; exact List.nodup_nil
  | f + 1, c :: cs, hn, hc => by
    obtain ⟨hc1, hc2⟩ := hc c (List.mem_cons_self ..)
    obtain ⟨hn1, hn2⟩ := List.nodup_cons.1 hn
    have hk : ∀ y ∈ kids c, y ∈ ns ∧ lvl par ns.length y = d + 1 := fun y hy => by
      obtain ⟨h1, h2⟩ := (h.hkids y c).1 hy
      exact ⟨h1, by rw [(lvl_eq _ _ (h.up h1)).1 c h2, hc2]⟩
    have hcs : ∀ y ∈ cs, y ∈ ns ∧ lvl par ns.length y = d := fun y hy => hc y (List.mem_cons_of_mem _ hy)
    rw [ids_cons, List.nodup_cons, List.nodup_append]
    refine ⟨fun hm => ?_, h.nodup' (d + 1) f (kids c) (h.ndk c) hk, h.nodup' d (f + 1) cs hn2 hcs, fun x hx y hy e => ?_⟩
    · rcases List.mem_append.1 hm with hm | hm
      · have := (h.below (d + 1) f (kids c) hk c hm).1; omega
      · obtain ⟨_, y, h2, h3⟩ := h.below d (f + 1) cs hcs c hm
        rw [hc2, Nat.sub_self] at h3
        obtain rfl : c = y := Option.some.inj h3
        exact hn1 h2
    · subst e
      obtain ⟨h1, y, h2, h3⟩ := h.below (d + 1) f (kids c) hk x hx
      obtain ⟨_, z, h5, h6⟩ := h.below d (f + 1) cs hcs x hy
      rw [show lvl par ns.length x - d = (lvl par ns.length x - (d + 1)) + 1 by omega] at h6
      have h6 : (Go.Proofs.Yticgkbpmaakkiaa.up par (lvl par ns.length x - (d + 1)) x).bind par = some z := h6
      rw [h3] at h6
      have h7 : par y = some z := h6
      rw [((h.hkids y c).1 h2).2] at h7
      obtain rfl : c = z := Option.some.inj h7
      exact hn1 h5
termination_by f cs => (f, cs.length)

theorem ids_kids {f : Nat} {cs : List I} : Fits kids f cs → ∀ y ∈ ids kids f cs, ∀ x ∈ kids y, x ∈ ids kids f cs := by
  intro hf
  induction f generalizing cs with
  | zero => intro y hy; rw [ids_zero] at hy; cases hy
  | succ f ih =>
    induction cs with
    | nil => intro y hy; rw [ids_nil] at hy; cases hy
    | cons c cs ihc =>
      intro y hy x hx
      rw [ids_cons] at hy ⊢
      have hfc := hf c (List.mem_cons_self ..)
      rcases List.mem_cons.1 hy with rfl | hy
      · refine List.mem_cons_of_mem _ (List.mem_append_left _ ?_)
        cases f with
        | zero => rw [show kids y = [] from hfc] at hx; cases hx
        | succ f =>
          have : ∀ (l : List I), x ∈ l → x ∈ ids kids (f + 1) l := by
            intro l
            induction l with
            | nil => intro h; cases h
            | cons z l ihl =>
              intro h
              rw [ids_cons]
              rcases List.mem_cons.1 h with rfl | h
              · exact List.mem_cons_self ..
              · exact List.mem_cons_of_mem _ (List.mem_append_right _ (ihl h))
          exact this _ hx
      · rcases List.mem_append.1 hy with hy | hy
        · exact List.mem_cons_of_mem _ (List.mem_append_left _ (ih hfc y hy x hx))
        · exact List.mem_cons_of_mem _ (List.mem_append_right _ (ihc hf.tail y hy x hx))
theorem ids_self {f : Nat} : ∀ (l : List I), ∀ x ∈ l, x ∈ ids kids (f + 1) l
  | [], _, h => by cases h
  | z :: l, x, h => by
    rw [ids_cons]
    rcases List.mem_cons.1 h with rfl | h
    · exact List.mem_cons_self ..
    · exact List.mem_cons_of_mem _ (List.mem_append_right _ (ids_self l x h))

/-- The forest's list, its levels enough. -/
theorem Forest.mem (h : Forest par ns roots kids) (x : I) : x ∈ ids kids ns.length roots ↔ x ∈ ns := by
  refine ⟨h.inside _ _ (fun c hc => ((h.hroots c).1 hc).1) x, fun hx => ?_⟩
  have : ∀ n x, x ∈ ns → lvl par ns.length x = n → x ∈ ids kids ns.length roots := by
    intro n
    induction n with
    | zero =>
      intro x hx hl
      cases hp : par x with
      | none =>
        have hr := (h.hroots x).2 ⟨hx, hp⟩
        obtain ⟨f, hf⟩ : ∃ f, ns.length = f + 1 := ⟨ns.length - 1, by have := List.length_pos_of_mem hx; omega⟩
        rw [hf]; exact ids_self _ x hr
      | some p => have := (lvl_eq _ _ (h.up hx)).1 p hp; omega
    | succ n ih =>
      intro x hx hl
      cases hp : par x with
      | none => have := (lvl_eq _ _ (h.up hx)).2.1 hp; omega
      | some p =>
        have h1 := (lvl_eq _ _ (h.up hx)).1 p hp
        have h2 := ih p (h.closed x p hx hp) (by omega)
        exact ids_kids h.fits p h2 x ((h.hkids x p).2 ⟨hx, hp⟩)
  exact this _ x hx rfl
theorem Forest.nodup (h : Forest par ns roots kids) : (ids kids ns.length roots).Nodup :=
  h.nodup' 0 _ _ h.ndr (fun c hc => ⟨((h.hroots c).1 hc).1, (lvl_eq _ _ (h.up ((h.hroots c).1 hc).1)).2.1 ((h.hroots c).1 hc).2⟩)
end
end Go.Proofs.Yticgkbpmaakkiaa
