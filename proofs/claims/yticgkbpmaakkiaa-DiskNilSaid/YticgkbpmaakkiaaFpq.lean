/-
  Forests: every node occurs once in the reading order, if parents lead to no cycle. Program-free.
-/
import Derived.Test.YticgkbpmaakkiaaFoq
namespace Go.Proofs.Yticgkbpmaakkiaa

section
variable {I : Type}

/-! ### parents -/
/-- n parents up. -/
def up (par : I → Option I) : Nat → I → Option I
  | 0, x => some x
  | n + 1, x => (up par n x).bind par
theorem up_succ (par : I → Option I) (n : Nat) (x : I) : up par (n + 1) x = (par x).bind (up par n) := by
  induction n with
  | zero => show (some x).bind par = _; cases h : par x <;> simp [up, h]
  | succ n ih =>
    show (up par (n + 1) x).bind par = _
    rw [ih]
    cases par x with
    | none => rfl
    | some p => rfl
theorem up_add (par : I → Option I) (m n : Nat) (x : I) : up par (m + n) x = (up par n x).bind (up par m) := by
  induction m with
  | zero =>
    rw [Nat.zero_add]
    cases up par n x <;> rfl
  | succ m ih =>
    rw [show m + 1 + n = (m + n) + 1 by omega]
    show (up par (m + n) x).bind par = _
    rw [ih]
    cases up par n x <;> rfl
def NoCyc (par : I → Option I) : Prop := ∀ n x, up par (n + 1) x ≠ some x

/-- Pigeonhole. -/
theorem nodup_len : ∀ (l m : List I), l.Nodup → (∀ x ∈ l, x ∈ m) → l.length ≤ m.length
  | [], _, _, _ => Nat.zero_le _
  | x :: l, m, hn, hs => by
    obtain ⟨m1, m2, rfl⟩ := List.append_of_mem (hs x (List.mem_cons_self ..))
    have hn' := List.nodup_cons.1 hn
    have := nodup_len l (m1 ++ m2) hn'.2 (fun y hy => by
      have := hs y (List.mem_cons_of_mem _ hy)
      simp only [List.mem_append, List.mem_cons] at this ⊢
      rcases this with h | h | h
      · exact .inl h
      · subst h; exact absurd hy hn'.1
      · exact .inr h)
    simp at this ⊢
    omega

/-- A chain without repetition ends within the nodes. -/
theorem up_none {par : I → Option I} (hc : NoCyc par) {ns : List I} (hcl : ∀ x p, x ∈ ns → par x = some p → p ∈ ns) {x : I} (hx : x ∈ ns) : up par ns.length x = none := by
  cases hu : up par ns.length x with
  | none => rfl
  | some z =>
    exfalso
    have hall : ∀ n, n ≤ ns.length → ∃ y, up par n x = some y ∧ y ∈ ns := by
      intro n
      induction n with
      | zero => exact fun _ => ⟨x, rfl, hx⟩
      | succ n ih =>
        intro hn
        obtain ⟨y, h1, h2⟩ := ih (by omega)
        cases hp : par y with
        | none =>
          exfalso
          have h3 : up par (n + 1) x = none := by show (up par n x).bind par = none; rw [h1]; exact hp
          rw [show ns.length = (ns.length - (n + 1)) + (n + 1) by omega, up_add, h3] at hu
          cases hu
        | some p => exact ⟨p, by show (up par n x).bind par = some p; rw [h1]; exact hp, hcl y p h2 hp⟩
    have hl : ((List.range (ns.length + 1)).map fun n => (up par n x).getD x).Nodup := by
      rw [List.nodup_iff_pairwise_ne, List.pairwise_map]
      have hr : (List.range (ns.length + 1)).Pairwise (· < ·) := List.pairwise_lt_range
      refine hr.imp_of_mem ?_
      intro i j hi hj hij e
      have hi' := List.mem_range.1 hi
      have hj' := List.mem_range.1 hj
      obtain ⟨y, h1, _⟩ := hall i (by omega)
      obtain ⟨y', h2, _⟩ := hall j (by omega)
      rw [h1, h2] at e
      have e : y = y' := e
      subst e
      rw [show j = (j - i - 1 + 1) + i by omega, up_add, h1] at h2
      exact hc _ _ h2
    have := nodup_len _ ns hl (fun y hy => by
      obtain ⟨n, hn, rfl⟩ := List.mem_map.1 hy
      obtain ⟨y, h1, h2⟩ := hall n (by have := List.mem_range.1 hn; omega)
      rw [h1]; exact h2)
    simp at this
    omega

/-- The level of a node, looked for through B parents. -/
def lvl (par : I → Option I) : Nat → I → Nat
  | 0, _ => 0
  | b + 1, x => match par x with
    | none => 0
    | some p => lvl par b p + 1
theorem lvl_eq {par : I → Option I} : ∀ (b : Nat) (x : I), up par b x = none → (∀ p, par x = some p → lvl par b x = lvl par b p + 1) ∧ (par x = none → lvl par b x = 0) ∧ lvl par b x < b
  | 0, x, h => by cases h
  | b + 1, x, h => by
    rw [up_succ] at h
    refine ⟨fun p hp => ?_, fun hp => by simp [lvl, hp], ?_⟩
    · rw [hp] at h
      have h : up par b p = none := h
      have ih := lvl_eq b p h
      show (match par x with | none => 0 | some p => lvl par b p + 1) = _
      rw [hp]
      show lvl par b p + 1 = lvl par (b + 1) p + 1
      congr 1
      have : ∀ (c : Nat) (y : I), up par c y = none → lvl par c y = lvl par (c + 1) y := by
        intro c
        induction c with
        | zero => intro y hy; cases hy
        | succ c ihc =>
          intro y hy
          rw [up_succ] at hy
          show (match par y with | none => 0 | some p => lvl par c p + 1) = (match par y with | none => 0 | some p => lvl par (c + 1) p + 1)
          cases hq : par y with
          | none => rfl
          | some q => rw [hq] at hy; show lvl par c q + 1 = lvl par (c + 1) q + 1; rw [ihc q hy]
      exact this b p h
    · show (match par x with | none => 0 | some p => lvl par b p + 1) < b + 1
      cases hp : par x with
      | none => exact Nat.succ_pos b
      | some p =>
        rw [hp] at h
        have := (lvl_eq b p h).2.2
        show lvl par b p + 1 < b + 1
        omega

/-! ### the forest -/
structure Forest (par : I → Option I) (ns : List I) (roots : List I) (kids : I → List I) : Prop where
  nocyc : NoCyc par
  closed : ∀ x p, x ∈ ns → par x = some p → p ∈ ns
  hroots : ∀ x, x ∈ roots ↔ x ∈ ns ∧ par x = none
  hkids : ∀ x p, x ∈ kids p ↔ x ∈ ns ∧ par x = some p
  ndr : roots.Nodup
  ndk : ∀ p, (kids p).Nodup

variable {par : I → Option I} {ns roots : List I} {kids : I → List I}

theorem Forest.up (h : Forest par ns roots kids) {x : I} (hx : x ∈ ns) : up par ns.length x = none := up_none h.nocyc h.closed hx

theorem Forest.fits' (h : Forest par ns roots kids) : ∀ (f : Nat) (cs : List I), (∀ c ∈ cs, c ∈ ns ∧ ns.length ≤ lvl par ns.length c + f) → Fits kids f cs
  | 0, [], _ => rfl
  | 0, c :: cs, hc => by
    obtain ⟨h1, h2⟩ := hc c (List.mem_cons_self ..)
    have := (lvl_eq _ _ (h.up h1)).2.2
    omega
  | f + 1, cs, hc => fun c hcc => by
    obtain ⟨h1, h2⟩ := hc c hcc
    refine h.fits' f (kids c) (fun x hx => ?_)
    obtain ⟨h3, h4⟩ := (h.hkids x c).1 hx
    have := (lvl_eq _ _ (h.up h3)).1 c h4
    exact ⟨h3, by omega⟩
theorem Forest.fits (h : Forest par ns roots kids) : Fits kids ns.length roots := h.fits' _ _ (fun c hc => ⟨((h.hroots c).1 hc).1, by omega⟩)

theorem Forest.inside (h : Forest par ns roots kids) : ∀ (f : Nat) (cs : List I), (∀ c ∈ cs, c ∈ ns) → ∀ x ∈ ids kids f cs, x ∈ ns
  | 0, cs, _, x, hx => by rw [ids_zero] at hx; cases hx
  | f + 1, [], _, x, hx => by rw [ids_nil] at hx; cases hx
  | f + 1, c :: cs, hc, x, hx => by
    rw [ids_cons] at hx
    rcases List.mem_cons.1 hx with rfl | hx
    · exact hc _ (List.mem_cons_self ..)
    · rcases List.mem_append.1 hx with hx | hx
      · exact h.inside f (kids c) (fun y hy => ((h.hkids y c).1 hy).1) x hx
      · exact h.inside (f + 1) cs (fun y hy => hc y (List.mem_cons_of_mem _ hy)) x hx
termination_by f cs => (f, cs.length)

/-- What stands below cs: from each node some parents lead into cs. -/
theorem Forest.below (h : Forest par ns roots kids) (d : Nat) : ∀ (f : Nat) (cs : List I), (∀ c ∈ cs, c ∈ ns ∧ lvl par ns.length c = d) → ∀ x ∈ ids kids f cs, d ≤ lvl par ns.length x ∧ ∃ c ∈ cs, Go.Proofs.Yticgkbpmaakkiaa.up par (lvl par ns.length x - d) x = some c
  | 0, cs, _, x, hx => by rw [ids_zero] at hx; cases hx
  | f + 1, [], _, x, hx => by rw [ids_nil] at hx; cases hx
  | f + 1, c :: cs, hc, x, hx => by
    rw [ids_cons] at hx
    obtain ⟨hc1, hc2⟩ := hc c (List.mem_cons_self ..)
    rcases List.mem_cons.1 hx with rfl | hx
    · exact ⟨by omega, x, List.mem_cons_self .., by rw [hc2, Nat.sub_self]; rfl⟩
    · rcases List.mem_append.1 hx with hx | hx
      · have hk : ∀ y ∈ kids c, y ∈ ns ∧ lvl par ns.length y = d + 1 := fun y hy => by
          obtain ⟨h1, h2⟩ := (h.hkids y c).1 hy
          exact ⟨h1, by rw [(lvl_eq _ _ (h.up h1)).1 c h2, hc2]⟩
        obtain ⟨h1, y, h2, h3⟩ := h.below (d + 1) f (kids c) hk x hx
        refine ⟨by omega, c, List.mem_cons_self .., ?_⟩
        rw [show lvl par ns.length x - d = (lvl par ns.length x - (d + 1)) + 1 by omega]
        show (Go.Proofs.Yticgkbpmaakkiaa.up par (lvl par ns.length x - (d + 1)) x).bind par = some c
        rw [h3]
        exact ((h.hkids y c).1 h2).2
      · obtain ⟨h1, y, h2, h3⟩ := h.below d (f + 1) cs (fun y hy => hc y (List.mem_cons_of_mem _ hy)) x hx
        exact ⟨h1, y, List.mem_cons_of_mem _ h2, h3⟩
termination_by f cs => (f, cs.length)

theorem Forest.nodup' (h : Forest par ns roots kids) (d : Nat) : ∀ (f : Nat) (cs : List I), cs.Nodup → (∀ c ∈ cs, c ∈ ns ∧ lvl par ns.length c = d) → (ids kids f cs).Nodup
  | 0, cs, _, _ => by rw [ids_zero]; exact List.nodup_nil
  | f + 1, [], _, _ => by rw [ids_nil]; exact List.nodup_nil
  | f + 1, c :: cs, hn, hc => by
    obtain ⟨hc1, hc2⟩ := hc c (List.mem_cons_self ..)
    obtain ⟨hn1, hn2⟩ := List.nodup_cons.1 hn
    have hk : ∀ y ∈ kids c, y ∈ ns ∧ lvl par ns.length y = d + 1 := fun y hy => by
      obtain ⟨h1, h2⟩ := (h.hkids y c).1 hy
      exact ⟨h1, by rw [(lvl_eq _ _ (h.up h1)).1 c h2, hc2]⟩
    have hcs : ∀ y ∈ cs, y ∈ ns ∧ lvl par ns.length y = d := fun y hy => hc y (List.mem_cons_of_mem _ hy)
    rw [ids_cons, List.nodup_cons, List.nodup_append]
    refine ⟨fun hm => ?_, h.nodup' (d + 1) f (kids c) (h.ndk c) hk, h.nodup' d (f + 1) cs hn2 hcs, fun x hx y hy e => ?_⟩
    · rcases List.mem_append.1 hm with hm | hm
      · have := (h.below (d + 1) f (kids c) hk c hm).1; omega
      · obtain ⟨_, y, h2, h3⟩ := h.below d (f + 1) cs hcs c hm
        rw [hc2, Nat.sub_self] at h3
        obtain rfl : c = y := Option.some.inj h3
        exact hn1 h2
    · subst e
      obtain ⟨h1, y, h2, h3⟩ := h.below (d + 1) f (kids c) hk x hx
      obtain ⟨_, z, h5, h6⟩ := h.below d (f + 1) cs hcs x hy
      rw [show lvl par ns.length x - d = (lvl par ns.length x - (d + 1)) + 1 by omega] at h6
      have h6 : (Go.Proofs.Yticgkbpmaakkiaa.up par (lvl par ns.length x - (d + 1)) x).bind par = some z := h6
      rw [h3] at h6
      have h7 : par y = some z := h6
      rw [((h.hkids y c).1 h2).2] at h7
      obtain rfl : c = z := Option.some.inj h7
      exact hn1 h5
termination_by f cs => (f, cs.length)

theorem ids_kids {f : Nat} {cs : List I} : Fits kids f cs → ∀ y ∈ ids kids f cs, ∀ x ∈ kids y, x ∈ ids kids f cs := by
  intro hf
  induction f generalizing cs with
  | zero => intro y hy; rw [ids_zero] at hy; cases hy
  | succ f ih =>
    induction cs with
    | nil => intro y hy; rw [ids_nil] at hy; cases hy
    | cons c cs ihc =>
      intro y hy x hx
      rw [ids_cons] at hy ⊢
      have hfc := hf c (List.mem_cons_self ..)
      rcases List.mem_cons.1 hy with rfl | hy
      · refine List.mem_cons_of_mem _ (List.mem_append_left _ ?_)
        cases f with
        | zero => rw [show kids y = [] from hfc] at hx; cases hx
        | succ f =>
          have : ∀ (l : List I), x ∈ l → x ∈ ids kids (f + 1) l := by
            intro l
            induction l with
            | nil => intro h; cases h
            | cons z l ihl =>
              intro h
              rw [ids_cons]
              rcases List.mem_cons.1 h with rfl | h
              · exact List.mem_cons_self ..
              · exact List.mem_cons_of_mem _ (List.mem_append_right _ (ihl h))
          exact this _ hx
      · rcases List.mem_append.1 hy with hy | hy
        · exact List.mem_cons_of_mem _ (List.mem_append_left _ (ih hfc y hy x hx))
        · exact List.mem_cons_of_mem _ (List.mem_append_right _ (ihc hf.tail y hy x hx))
theorem ids_self {f : Nat} : ∀ (l : List I), ∀ x ∈ l, x ∈ ids kids (f + 1) l
  | [], _, h => by cases h
  | z :: l, x, h => by
    rw [ids_cons]
    rcases List.mem_cons.1 h with rfl | h
    · exact List.mem_cons_self ..
    · exact List.mem_cons_of_mem _ (List.mem_append_right _ (ids_self l x h))

/-- The forest's list, its levels enough. -/
theorem Forest.mem (h : Forest par ns roots kids) (x : I) : x ∈ ids kids ns.length roots ↔ x ∈ ns := by
  refine ⟨h.inside _ _ (fun c hc => ((h.hroots c).1 hc).1) x, fun hx => ?_⟩
  have : ∀ n x, x ∈ ns → lvl par ns.length x = n → x ∈ ids kids ns.length roots := by
    intro n
    induction n with
    | zero =>
      intro x hx hl
      cases hp : par x with
      | none =>
        have hr := (h.hroots x).2 ⟨hx, hp⟩
        obtain ⟨f, hf⟩ : ∃ f, ns.length = f + 1 := ⟨ns.length - 1, by have := List.length_pos_of_mem hx; omega⟩
        rw [hf]; exact ids_self _ x hr
      | some p => have := (lvl_eq _ _ (h.up hx)).1 p hp; omega
    | succ n ih =>
      intro x hx hl
      cases hp : par x with
      | none => have := (lvl_eq _ _ (h.up hx)).2.1 hp; omega
      | some p =>
        have h1 := (lvl_eq _ _ (h.up hx)).1 p hp
        have h2 := ih p (h.closed x p hx hp) (by omega)
        exact ids_kids h.fits p h2 x ((h.hkids x p).2 ⟨hx, hp⟩)
  exact this _ x hx rfl
theorem Forest.nodup (h : Forest par ns roots kids) : (ids kids ns.length roots).Nodup :=
  h.nodup' 0 _ _ h.ndr (fun c hc => ⟨((h.hroots c).1 hc).1, (lvl_eq _ _ (h.up ((h.hroots c).1 hc).1)).2.1 ((h.hroots c).1 hc).2⟩)
end
end Go.Proofs.Yticgkbpmaakkiaa
