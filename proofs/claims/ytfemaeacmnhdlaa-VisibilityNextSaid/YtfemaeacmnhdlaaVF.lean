/-
  Rows and identities that came in.
-/
import Derived.Test.YtfemaeacmnhdlaaVE
import Derived.Test.YtfemaeacmnhdlaaOpn
import Derived.Below
import Derived.Carry
import Derived.OpenShut
namespace Go.Proofs.Ytfemaeacmnhdlaa
open Go.RowKit Go.Deep

section
variable {H : Type} {enc : TypeId × Value → H} {w : World} {base : Nat} {spare : Nat → Bool} {held : Bool}

theorem cells3 : Try.prog.cellsOf 3 = 1 := by kernel_rfl
theorem cells5 : Try.prog.cellsOf 5 = 1 := by kernel_rfl
theorem cells23 : Try.prog.cellsOf 23 = 1 := by kernel_rfl
theorem cells31 : Try.prog.cellsOf 31 = 32 := by kernel_rfl
theorem cells33 : Try.prog.cellsOf 33 = 16 := by kernel_rfl
theorem cells34 : Try.prog.cellsOf 34 = 1 := by kernel_rfl
theorem cells36 : Try.prog.cellsOf 36 = 83 := by kernel_rfl

/-- An array of bytes that came in. -/
theorem arr_of {t e : TypeId} {k : Nat} (ht : Try.prog.underlying t = some (.array k e)) (he : Try.prog.underlying e = some (.int .u8)) (hc : Try.prog.cellsOf e = 1) (hk : Try.prog.cellsOf t = k) {n : Nat} {cs : List Value} {y : DataW H × List MemPlace}
    (h : DataW.trod enc Try.prog w base spare held n t cs = some y) : ∃ l : List UInt8, l.length = k ∧ cs = u8s l := by
  obtain ⟨xs, m, rfl, rfl, hlen, hxl, hf⟩ := DataW.trod_array ht h
  rw [hk] at hlen
  obtain ⟨l, hl, hp⟩ := list_of (p := fun i (b : UInt8) => cs[i]? = some (.int .u8 (b.toNat : Int))) k (fun i hi => by
    have g := hf i hi
    rw [hc, Nat.mul_one, List.getElem?_eq_getElem (by rw [hxl]; exact hi)] at g
    obtain ⟨b, hb⟩ := byte_of he g
    exact ⟨b, take1 hb⟩)
  refine ⟨l, hl, List.ext_getElem? fun i => ?_⟩
  rw [u8s_get]
  by_cases hi : i < k
  · rw [List.getElem?_eq_getElem (show i < l.length by omega), hp i _ (List.getElem?_eq_getElem (show i < l.length by omega))]; rfl
  · rw [List.getElem?_eq_none (by omega), List.getElem?_eq_none (by omega)]; rfl
theorem id_of {n : Nat} {cs : List Value} {y : DataW H × List MemPlace} (h : DataW.trod enc Try.prog w base spare held n 31 cs = some y) : ∃ x : Id, cs = idC x := by
  obtain ⟨l, hl, rfl⟩ := arr_of Try.underlying31 Try.underlying5 cells5 cells31 h
  exact ⟨⟨l, hl⟩, rfl⟩
theorem ids_of {n : Nat} {cs : List Value} {y : DataW H × List MemPlace} (h : DataW.trod enc Try.prog w base spare held n 23 cs = some y) : ∃ a cap, ∃ l : List Id, cs = [.slice a l.length cap] ∧ l.length ≤ cap ∧ cap ≤ maxLen ∧ AtL w a 32 idC l := by
  obtain ⟨a, cap, l, rfl, h1, h2, _, h4, _⟩ := slice_list (α := Id) Try.underlying23 cells31 (by omega) h idC (fun _ => True) (fun n cs' y hy => by
    obtain ⟨x, hx⟩ := id_of hy
    exact ⟨x, hx, trivial⟩)
  exact ⟨a, cap, l, rfl, h1, h2, h4.imp id (fun ⟨b, o, e1, _, e3⟩ => ⟨b, o, e1, e3⟩)⟩
theorem raw_of {n : Nat} {cs : List Value} {y : DataW H × List MemPlace} (h : DataW.trod enc Try.prog w base spare held n 34 cs = some y) : ∃ s : Raw, cs = [rawV s] := by
  rcases open_slice Try.underlying34 h with ⟨rfl, _⟩ | ⟨a, len, cap, m, k, D, Pl, rfl, _⟩
  · exact ⟨(none, 0, 0), rfl⟩
  · exact ⟨(some a, len, cap), rfl⟩
theorem row_of {n : Nat} {cs : List Value} {y : DataW H × List MemPlace} (h : DataW.trod enc Try.prog w base spare held n 36 cs = some y) : ∃ r : Row, cs = rowC r ∧ AtL w r.ra 32 idC r.refs := by
  obtain ⟨xs, n', rfl, rfl, hlen, hxl, hf⟩ := DataW.trod_struct Try.underlying36 h
  rw [cells36] at hlen
  have hx : ∀ i, i < 6 → ∃ y, xs[i]? = some y := fun i hi => ⟨_, List.getElem?_eq_getElem (by rw [hxl]; exact hi)⟩
  obtain ⟨y0, h0⟩ := hx 0 (by omega)
  have g0 := hf 0 _ rfl
  rw [h0] at g0
  obtain ⟨x, e0⟩ := id_of g0
  obtain ⟨y1, h1⟩ := hx 1 (by omega)
  have g1 := hf 1 _ rfl
  rw [h1] at g1
  obtain ⟨l1, hl1, e1⟩ := arr_of Try.underlying33 Try.underlying5 cells5 cells33 g1
  obtain ⟨y2, h2⟩ := hx 2 (by omega)
  have g2 := hf 2 _ rfl
  rw [h2] at g2
  obtain ⟨d, e2, _, _⟩ := DataW.trod_int Try.underlying3 g2
  obtain ⟨y3, h3⟩ := hx 3 (by omega)
  have g3 := hf 3 _ rfl
  rw [h3] at g3
  obtain ⟨s, e3⟩ := raw_of g3
  obtain ⟨y4, h4⟩ := hx 4 (by omega)
  have g4 := hf 4 _ rfl
  rw [h4] at g4
  obtain ⟨ra, rc, refs, e4, _, _, ha⟩ := ids_of g4
  obtain ⟨y5, h5⟩ := hx 5 (by omega)
  have g5 := hf 5 _ rfl
  rw [h5] at g5
  obtain ⟨sup, e5⟩ := id_of g5
  have e0' : cs.take 32 = idC x := (congrArg (fun q => (cs.drop 0).take q) cells31.symm).trans e0
  have e1' : (cs.drop 32).take 16 = u8s l1 := (congrArg (fun q => (cs.drop 32).take q) cells33.symm).trans e1
  have e2' : (cs.drop 48).take 1 = [.int .i64 d] := (congrArg (fun q => (cs.drop 48).take q) cells3.symm).trans e2
  have e3' : (cs.drop 49).take 1 = [rawV s] := (congrArg (fun q => (cs.drop 49).take q) cells34.symm).trans e3
  have e4' : (cs.drop 50).take 1 = [.slice ra refs.length rc] := (congrArg (fun q => (cs.drop 50).take q) cells23.symm).trans e4
  have e5' : (cs.drop 51).take 32 = idC sup := (congrArg (fun q => (cs.drop 51).take q) cells31.symm).trans e5
  refine ⟨⟨x, ⟨l1, hl1⟩, d, s, ra, rc, refs, sup⟩, ?_, ha⟩
  have s0 := (List.take_append_drop 32 cs).symm
  have s1 := (List.take_append_drop 16 (cs.drop 32)).symm
  have s2 := (List.take_append_drop 1 (cs.drop 48)).symm
  have s3 := (List.take_append_drop 1 (cs.drop 49)).symm
  have s4 := (List.take_append_drop 1 (cs.drop 50)).symm
  have s5 : (cs.drop 51).take 32 = cs.drop 51 := List.take_of_length_le (by rw [List.length_drop]; omega)
  rw [e0'] at s0
  rw [e1', List.drop_drop] at s1
  rw [e2', List.drop_drop] at s2
  rw [e3', List.drop_drop] at s3
  rw [e4', List.drop_drop] at s4
  rw [e5'] at s5
  rw [s0, s1, s2, s3, s4, ← s5]
  rfl
theorem rows_of {n : Nat} {cs : List Value} {y : DataW H × List MemPlace} (h : DataW.trod enc Try.prog w base spare held n 22 cs = some y) : ∃ a cap, ∃ l : List Row, cs = [.slice a l.length cap] ∧ l.length ≤ cap ∧ cap ≤ maxLen ∧ AtL w a 83 rowC l ∧ RefsAt w l := by
  obtain ⟨a, cap, l, rfl, h1, h2, _, h4, h5⟩ := slice_list (α := Row) Try.underlying22 cells36 (by omega) h rowC (fun r => AtL w r.ra 32 idC r.refs) (fun n cs' y hy => row_of hy)
  exact ⟨a, cap, l, rfl, h1, h2, h4.imp id (fun ⟨b, o, e1, _, e3⟩ => ⟨b, o, e1, e3⟩), h5⟩
end

theorem cells_slice {v : Value} {a : Option Addr} {n c : Nat} (h : v.cells.toList = [.slice a n c]) (hv : ∃ a n c, v = .slice a n c) : v = .slice a n c := by
  obtain ⟨a', n', c', rfl⟩ := hv
  have : [Value.slice a' n' c'] = [.slice a n c] := h
  exact (List.cons.inj this).1
theorem cells_agg {v : Value} {l : List Value} (h : v.cells.toList = l) (hl : l.length ≠ 1) : v = .agg l.toArray := by
  subst h
  cases v <;> first | rfl | (exfalso; exact hl rfl)

theorem closed_walk (w : World) (a : Option Addr) (cap : Nat) (l : List Row) (ga : Option Addr) (gc : Nat) (g : List Id) (now : Int) (hl : l.length ≤ 9223372036854775807) (hcap : l.length ≤ cap) (h : AtL w a 83 rowC l) (hr : RefsAt w l) (h2 : AtL w ga 32 idC g) :
    Calls Try.prog 3 #[.slice a l.length cap, .slice ga g.length gc, .int .i64 now] w fun e w' => e = .returned (.bool true) ∧ Fr Non w w' := by
  by_cases hf : Few l g
  · by_cases hg : Good l
    · exact closed_good w a cap l ga gc g now hl hcap h hr h2 hf hg
    · exact closed_bad w a cap l ga gc g now hl hcap h hf hg
  · exact closed_few w a cap l ga gc g now hl h hf
end Go.Proofs.Ytfemaeacmnhdlaa
