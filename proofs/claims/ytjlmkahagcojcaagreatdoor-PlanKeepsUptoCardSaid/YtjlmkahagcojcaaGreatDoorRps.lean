/- The library's split at line ends is this one; a line's words, step by step. -/
import Derived.Test.YtjlmkahagcojcaaGreatDoorRpl
import Derived.Lib.SplitLaws
namespace Go.Proofs.YtjlmkahagcojcaaGreatDoor
open Go
theorem index_cons_ne (b : UInt8) (l : List UInt8) (h : b ≠ 10) : Lib.index (b :: l) [10] = if Lib.index l [10] == -1 then -1 else Lib.index l [10] + 1 := by
  have hp : ([10] : List UInt8).isPrefixOf (b :: l) = false := by simp [List.isPrefixOf, Ne.symm h]
  rw [Lib.index, hp]; simp
theorem index_cons_eq (l : List UInt8) : Lib.index (10 :: l) [10] = 0 := by rw [Lib.index]; simp [List.isPrefixOf]
theorem splitK_cons (b : UInt8) (l : List UInt8) (h : b ≠ 10) (k : Nat) : ∃ x r, Lib.splitK [10] 0 k l = x :: r ∧ Lib.splitK [10] 0 k (b :: l) = (b :: x) :: r := by
  cases k with
  | zero => exact ⟨l, [], rfl, rfl⟩
  | succ k =>
    unfold Lib.splitK
    rw [index_cons_ne b l h]
    by_cases hm : Lib.index l [10] = -1
    · rw [if_pos (beq_iff_eq.2 hm), if_pos (by rw [if_pos (beq_iff_eq.2 hm)]; rfl)]
      exact ⟨l, [], rfl, rfl⟩
    · have hge := Lib.index_ge l [10]
      obtain ⟨j, hj⟩ : ∃ j : Nat, Lib.index l [10] = j := ⟨(Lib.index l [10]).toNat, by omega⟩
      rw [hj]
      have n1 : ¬ (((j : Int)) == -1) = true := fun e => by have := beq_iff_eq.1 e; omega
      rw [if_neg n1, if_neg n1]
      have n2 : ¬ (((j : Int) + 1) == -1) = true := fun e => by have := beq_iff_eq.1 e; omega
      rw [if_neg n2]
      refine ⟨_, _, rfl, ?_⟩
      have e1 : ((j : Int) + 1).toNat + 0 = j + 1 := by omega
      have e2 : ((j : Int) + 1).toNat + [(10 : UInt8)].length = (j + 1) + 1 := by simp
      have e3 : ((j : Int)).toNat + 0 = j := by omega
      have e4 : ((j : Int)).toNat + [(10 : UInt8)].length = j + 1 := by simp
      rw [e1, e2, e3, e4]
      rfl
theorem splitK_is : ∀ l : List UInt8, Lib.splitK [10] 0 (Lib.count l [10]) l = splitM l
  | [] => by rw [Lib.count_one]; rfl
  | b :: l => by
    have ih := splitK_is l
    by_cases h : b = 10
    · subst h
      rw [Lib.count_cons_eq, Nat.add_comm]
      unfold Lib.splitK
      rw [index_cons_eq, if_neg (by decide)]
      show [] :: Lib.splitK [10] 0 (Lib.count l [10]) l = _
      rw [ih, splitM, if_pos rfl]
    · rw [Lib.count_cons_ne b 10 l h]
      obtain ⟨x, r, h1, h2⟩ := splitK_cons b l h (Lib.count l [10])
      rw [h2]
      rw [h1] at ih
      rw [splitM, if_neg h, ← ih]
theorem splitB_is (s : ByteArray) : (Lib.splitB ⟨#[10]⟩ 0 (Lib.countB s ⟨#[10]⟩) s).map (·.data.toList) = splitM s.data.toList := by
  rw [Lib.splitB_data]
  exact splitK_is s.data.toList
/-! a line, byte by byte: `r` is what is left of it -/
theorem skip_sp {L : List UInt8} {i : Nat} (h : L[i]? = some 32) : skipS (L.drop i) = skipS (L.drop (i + 1)) := by
  obtain ⟨hi, e⟩ := List.getElem?_eq_some_iff.1 h
  rw [List.drop_eq_getElem_cons hi, e]
  rfl
theorem skip_stop {L : List UInt8} {i : Nat} {c : UInt8} (h : L[i]? = some c) (hc : c ≠ 32) : skipS (L.drop i) = L.drop i := by
  obtain ⟨hi, e⟩ := List.getElem?_eq_some_iff.1 h
  rw [List.drop_eq_getElem_cons hi, e]
  exact skip_id hc
theorem skip_end {L : List UInt8} {i : Nat} (h : L.length ≤ i) : skipS (L.drop i) = [] ∧ L.drop i = [] := by
  rw [List.drop_eq_nil_of_le h]
  exact ⟨rfl, rfl⟩
def tw (r : List UInt8) : List UInt8 := r.takeWhile (· != 32)
def dw (r : List UInt8) : List UInt8 := r.dropWhile (· != 32)
theorem tw_in {L : List UInt8} {i : Nat} {c : UInt8} (h : L[i]? = some c) (hc : c ≠ 32) : tw (L.drop i) = c :: tw (L.drop (i + 1)) ∧ dw (L.drop i) = dw (L.drop (i + 1)) := by
  obtain ⟨hi, e⟩ := List.getElem?_eq_some_iff.1 h
  rw [List.drop_eq_getElem_cons hi, e]
  unfold tw dw
  rw [List.takeWhile_cons, List.dropWhile_cons, if_pos (by simpa using hc), if_pos (by simpa using hc)]
  exact ⟨rfl, rfl⟩
theorem tw_stop {L : List UInt8} {i : Nat} (h : L[i]? = some 32 ∨ L.length ≤ i) : tw (L.drop i) = [] ∧ dw (L.drop i) = L.drop i := by
  rcases h with h | h
  · obtain ⟨hi, e⟩ := List.getElem?_eq_some_iff.1 h
    rw [List.drop_eq_getElem_cons hi, e]
    exact ⟨rfl, rfl⟩
  · rw [List.drop_eq_nil_of_le h]
    exact ⟨rfl, rfl⟩
theorem word_eq (r : List UInt8) : wordS r = tw (skipS r) ∧ afterS r = dw (skipS r) := ⟨rfl, rfl⟩
theorem tw_len (r : List UInt8) : (tw r).length + (dw r).length = r.length := by
  have := congrArg List.length (List.takeWhile_append_dropWhile (p := (· != 32)) (l := r))
  rw [List.length_append] at this
  exact this
theorem tw_take (r : List UInt8) : tw r = r.take (tw r).length := by
  have h := List.takeWhile_append_dropWhile (p := (· != 32)) (l := r)
  have h2 : r.take (tw r).length = (tw r ++ dw r).take (tw r).length := by rw [show tw r ++ dw r = r from h]
  rw [h2, List.take_left' rfl]
end Go.Proofs.YtjlmkahagcojcaaGreatDoor
