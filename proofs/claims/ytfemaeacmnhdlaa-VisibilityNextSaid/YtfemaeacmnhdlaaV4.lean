/-
  What decides whether a row is shown: the closure that calls itself.
-/
import Derived.Test.YtfemaeacmnhdlaaV3
namespace Go.Proofs.Ytfemaeacmnhdlaa
open Go.RowKit

abbrev rowV (r : Row) : Value := .agg (rowC r).toArray
abbrev intV (n : Int) : Value := .int .i64 n
abbrev St := Id → Int
def upd (st : St) (x : Id) (v : Int) : St := fun y => if y = x then v else st y

/-- The states in a map. -/
def aget_ok (l : List (Id × Int)) (st : St) : Prop := ∀ x, (aget x l).getD 0 = st x
theorem aget_ok.put {l : List (Id × Int)} {st : St} (h : aget_ok l st) (x : Id) (v : Int) : aget_ok (aput x v l) (upd st x v) := fun y => by
  rw [aget_aput]
  unfold upd
  split
  · rfl
  · exact h y

def isF (rows : Id → Option Row) (lost : Id → Bool) (now : Int) : Nat → Row → St → Bool × St
  | 0, _, st => (false, st)
  | n + 1, r, st =>
    if st r.id = 0 then
      let q := match r.refs.getLast? with
        | none => (true, upd st r.id 1)
        | some q => match rows q with
          | some rq => isF rows lost now n rq (upd st r.id 1)
          | none => (lost q || decide (r.date + 2880 ≤ now), upd st r.id 1)
      (q.1, if q.1 then upd (upd q.2 r.id 2) r.id 3 else upd q.2 r.id 2)
    else (decide (st r.id = 3), st)

theorem isF_dec (rows : Id → Option Row) (lost : Id → Bool) (now : Int) (n : Nat) (r : Row) (st : St) (h : st r.id ≠ 0) : isF rows lost now (n + 1) r st = (decide (st r.id = 3), st) := by
  unfold isF; rw [if_neg h]
theorem isF_end (rows : Id → Option Row) (lost : Id → Bool) (now : Int) (n : Nat) (r : Row) (st : St) (h : st r.id = 0) (y : Bool) (st2 : St)
    (hq : (match r.refs.getLast? with
        | none => (true, upd st r.id 1)
        | some q => match rows q with
          | some rq => isF rows lost now n rq (upd st r.id 1)
          | none => (lost q || decide (r.date + 2880 ≤ now), upd st r.id 1)) = (y, st2)) :
    isF rows lost now (n + 1) r st = (y, if y then upd (upd st2 r.id 2) r.id 3 else upd st2 r.id 2) := by
  unfold isF; rw [if_pos h]
  simp only [hq]

/-- how many rows are undecided -/
def und (lr : List (Id × Row)) (st : St) : Nat := (lr.filter fun x => decide (st x.1 = 0)).length
theorem und_upd {lr : List (Id × Row)} (st : St) (x : Id) (v : Int) (hv : v ≠ 0) (h0 : st x = 0) (hx : x ∈ lr.map (·.1)) : und lr (upd st x v) < und lr st := by
  unfold und
  induction lr with
  | nil => simp at hx
  | cons y r ih =>
    simp only [List.map_cons, List.mem_cons] at hx
    have hle : ((r.filter fun z => decide (upd st x v z.1 = 0)).length) ≤ (r.filter fun z => decide (st z.1 = 0)).length := by
      have e : (r.filter fun z => decide (upd st x v z.1 = 0)) = (r.filter fun z => decide (st z.1 = 0)).filter fun z => decide (z.1 ≠ x) := by
        rw [List.filter_filter]
        apply List.filter_congr
        intro z _
        unfold upd
        by_cases e : z.1 = x
        · simp [e, hv]
        · simp [e]
      rw [e]; exact List.length_filter_le _ _
    by_cases e : y.1 = x
    · have h1 : upd st x v y.1 ≠ 0 := by unfold upd; rw [if_pos e]; exact hv
      have h2 : st y.1 = 0 := by rw [e]; exact h0
      simp only [List.filter_cons, h1, h2, decide_false, decide_true, if_true, Bool.false_eq_true, if_false, List.length_cons]
      omega
    · have hx' : x ∈ r.map (·.1) := by
        rcases hx with h | h
        · exact absurd h.symm e
        · exact h
      have := ih hx'
      have h1 : upd st x v y.1 = st y.1 := by unfold upd; rw [if_neg e]
      simp only [List.filter_cons, h1]
      split
      · simp only [List.length_cons]; omega
      · exact this

theorem AtL.fr_map {α : Type} {w w' : World} {ms : Nat} {es : Array MapEntry} {cl : Nat} (hm : w.heap[ms]? = some (.map es cl)) (hf : Fr (· = ms) w w') {a : Option Addr} {k : Nat} {enc : α → List Value} {l : List α} (h : AtL w a k enc l) : AtL w' a k enc l :=
  h.imp id fun ⟨b, o, e, q⟩ => ⟨b, o, e, fun i x hx j v hv => hf.cell (q i x hx j v hv) (fun e2 => by
    have h2 := q i x hx j v hv
    have e3 : b = ms := e2
    unfold World.cell? at h2
    simp only [e3, hm] at h2
    cases h2)⟩

structure Env (w : World) (b13 b7 b14 b8 b5 ms mr ml : Nat) (rows : Id → Option Row) (lost : Id → Bool) (now : Int) (lr : List (Id × Row)) : Prop where
  c13 : w.heap[b13]? = some (.cells #[.map (some ms)] 99)
  c7 : w.heap[b7]? = some (.cells #[.map (some mr)] 152)
  c14 : w.heap[b14]? = some (.cells #[.func (.func 107) #[] #[.pointer (some ⟨b13, 0, none⟩), .pointer (some ⟨b7, 0, none⟩), .pointer (some ⟨b14, 0, none⟩), .pointer (some ⟨b8, 0, none⟩), .pointer (some ⟨b5, 0, none⟩)]] 127)
  c8 : w.heap[b8]? = some (.cells #[.map (some ml)] 96)
  c5 : w.heap[b5]? = some (.cells #[.int .i64 now] 3)
  hrows : MapAt w mr idK rowV lr ∧ ∀ x, aget x lr = rows x
  hlost : ∃ ll, MapAt w ml idK Value.bool ll ∧ ∀ x, (aget x ll).getD false = lost x
  good : ∀ x r, rows x = some r → r.id = x ∧ RowGood r ∧ AtL w r.ra 32 idC r.refs
  n7 : ms ≠ mr
  n8 : ms ≠ ml
theorem Env.fr {w w' : World} {b13 b7 b14 b8 b5 ms mr ml : Nat} {rows : Id → Option Row} {lost : Id → Bool} {now : Int} {lr : List (Id × Row)} {lst : List (Id × Int)} (h : Env w b13 b7 b14 b8 b5 ms mr ml rows lost now lr) (hm : MapAt w ms idK intV lst) (hf : Fr (· = ms) w w') : Env w' b13 b7 b14 b8 b5 ms mr ml rows lost now lr := by
  obtain ⟨es, cl, hes, _⟩ := hm.ex
  have key : ∀ {b : Nat} {cs : Array Value} {t : TypeId}, w.heap[b]? = some (.cells cs t) → b ≠ ms := fun hb e => by rw [e, hes] at hb; cases hb
  obtain ⟨ll, h1, h2⟩ := h.hlost
  refine ⟨hf.keep h.c13 (key h.c13), hf.keep h.c7 (key h.c7), hf.keep h.c14 (key h.c14), hf.keep h.c8 (key h.c8), hf.keep h.c5 (key h.c5), ⟨h.hrows.1.fr hf (fun e => h.n7 e.symm), h.hrows.2⟩, ⟨ll, h1.fr hf (fun e => h.n8 e.symm), h2⟩, fun x r hr => ?_, h.n7, h.n8⟩
  obtain ⟨g1, g2, g3⟩ := h.good x r hr
  exact ⟨g1, g2, g3.fr_map hes hf⟩
end Go.Proofs.Ytfemaeacmnhdlaa
