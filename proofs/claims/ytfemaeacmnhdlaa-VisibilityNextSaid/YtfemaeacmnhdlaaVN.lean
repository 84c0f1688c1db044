/-
  pick: a sorted list of the marked rows' identities, by insertion: the plain law.
-/
import Derived.Test.YtfemaeacmnhdlaaVM
namespace Go.Proofs.Ytfemaeacmnhdlaa
open Go.RowKit Go.Sort

def Srtd (l : List Id) : Prop := l.Pairwise fun a b => ltOf cmpId b a = false
theorem srtd_ins {l : List Id} {x : Id} {i : Nat} (h : Srtd l) (h1 : ∀ y ∈ l.take i, ltOf cmpId y x = true) (h2 : ∀ z, l[i]? = some z → ltOf cmpId z x = false) : Srtd (l.take i ++ x :: l.drop i) := by
  have hsplit : Srtd (l.take i ++ l.drop i) := by rw [List.take_append_drop]; exact h
  unfold Srtd at hsplit ⊢
  rw [List.pairwise_append] at hsplit ⊢
  obtain ⟨p1, p2, p3⟩ := hsplit
  have hd : ∀ z ∈ l.drop i, ltOf cmpId z x = false := by
    intro z hz
    cases hh : l.drop i with
    | nil => rw [hh] at hz; cases hz
    | cons z0 t =>
      have h0 : l[i]? = some z0 := by
        have : (l.drop i)[0]? = some z0 := by rw [hh]; rfl
        rwa [List.getElem?_drop, Nat.add_zero] at this
      have hz0 := h2 z0 h0
      rw [hh] at hz p2
      rcases List.mem_cons.1 hz with rfl | hz
      · exact hz0
      · exact ltId_swo.ntrans _ _ _ ((List.pairwise_cons.1 p2).1 z hz) hz0
  refine ⟨p1, List.pairwise_cons.2 ⟨hd, p2⟩, ?_⟩
  intro y hy z hz
  have hy1 := h1 y hy
  have asym : ltOf cmpId x y = false := by
    cases hc : ltOf cmpId x y with
    | false => rfl
    | true => have := ltId_swo.trans _ _ _ hy1 hc; rw [ltId_swo.irrefl] at this; cases this
  rcases List.mem_cons.1 hz with rfl | hz
  · exact asym
  · exact p3 y hy z hz
theorem ins_perm (l : List Id) (x : Id) (i : Nat) : (l.take i ++ x :: l.drop i).Perm (l ++ [x]) := by
  have h1 : (l.take i ++ x :: l.drop i).Perm (x :: (l.take i ++ l.drop i)) := List.perm_middle
  rw [List.take_append_drop] at h1
  exact h1.trans (List.perm_append_comm (l₁ := [x]) (l₂ := l))
theorem srtd_srt {l m : List Id} (h : Srtd m) (hp : m.Perm l) : m = srt l := by
  have hlen := hp.length_eq
  have hu := sorted_unique_holds ltId_swo ltId_total l.toArray m.toArray ⟨by simpa using hlen, fun i hi => by
      have hi' : l.length ≤ i := by simpa using hi
      rw [getElem!_neg _ _ (by simp; omega), getElem!_neg _ _ (by simp; omega)], by
      have e1 : (m.toArray.extract 0 l.toArray.size).toList = m := by rw [Array.toList_extract]; simp [List.extract, ← hlen]
      have e2 : (l.toArray.extract 0 l.toArray.size).toList = l := by rw [Array.extract_size]
      rw [e1, e2]; exact hp⟩ (fun i j _ hij hj => by
        have hj' : j < m.length := by simp at hj; omega
        have := List.pairwise_iff_getElem.1 h i j (by omega) hj' hij
        rw [getElem!_pos _ _ (by simpa using hj'), getElem!_pos _ _ (by simp; omega)]
        simpa using this)
  exact hu
end Go.Proofs.Ytfemaeacmnhdlaa
