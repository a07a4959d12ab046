import Derived.Test.YtdhbdomjlggfgaaP14
namespace Go.Proofs.Ytdhbdomjlggfgaa.Q
open Go.RowKit Go.Proofs.YtdhbdomjlggfgaaW.PrintWords Go.Proofs.YtdhbdomjlggfgaaW.PrintLast Go.Proofs.YtdhbdomjlggfgaaW.PrintMore
attribute [local go_sem] max2_int min2_int max_two min_two max_three min_three max_four min_four
set_option linter.unusedVariables false
set_option linter.unusedSimpArgs false
theorem zeros_size (m : Nat) : (⟨(Lib.repeatL [0] m).toArray⟩ : ByteArray).size = m := by
  show (Lib.repeatL [0] m).toArray.size = _
  rw [List.size_toArray, Lib.repeatL_length]
  simp
/-- Every piece of a text is forty bytes long. -/
theorem chunkS_size (l : List Int) (k : Nat) (h : 40 * k < l.length) : (chunkS l k).size = 40 := by
  unfold chunkS
  rw [ByteArray.size_append', pieceL_size l k h, zeros_size]
  omega
/-- Numbers back from a string. -/
def numsOf (s : ByteArray) : List Int := s.data.toList.map (fun b => (b.toNat : Int))
/-- The first k pieces in a row. -/
def joinF (l : List Int) : Nat → List Int
  | 0 => []
  | k + 1 => joinF l k ++ numsOf (chunkS l k)
theorem numsOf_length (s : ByteArray) : (numsOf s).length = s.size := by unfold numsOf; rw [List.length_map, data_length]
theorem joinF_length (l : List Int) : ∀ k, k ≤ piecesN l.length → (joinF l k).length = 40 * k
  | 0, _ => rfl
  | k + 1, h => by
    have hk : 40 * k < l.length := by unfold piecesN at h; omega
    rw [joinF, List.length_append, joinF_length l k (by omega), numsOf_length, chunkS_size l k hk]
    omega
theorem numsOf_append (a b : ByteArray) : numsOf (a ++ b) = numsOf a ++ numsOf b := by
  unfold numsOf
  simp [ByteArray.data_append]
theorem repeatL_zero (m : Nat) : Lib.repeatL [0] m = List.replicate m 0 := by
  induction m with
  | zero => rfl
  | succ m ih => rw [Lib.repeatL, ih]; rfl
theorem numsOf_str (l : List Int) (h : ∀ x ∈ l, 0 ≤ x ∧ x < 256) : numsOf (strOfNums l) = l := by
  unfold numsOf strOfNums
  induction l with
  | nil => rfl
  | cons x l ih =>
    have hx := h x (by simp)
    have := ih (fun y hy => h y (by simp [hy]))
    simp_all
    omega
theorem piece_bytes (l : List Int) (k : Nat) (h : ∀ x ∈ l, 0 ≤ x ∧ x < 256) : ∀ x ∈ pieceL l k, 0 ≤ x ∧ x < 256 := fun x hx => h x (List.mem_of_mem_take (List.mem_of_mem_drop hx))
theorem numsOf_zeros (m : Nat) : numsOf ⟨(Lib.repeatL [0] m).toArray⟩ = List.replicate m 0 := by
  unfold numsOf
  simp [repeatL_zero]
/-- The pieces joined: the text, and zeros behind it. -/
theorem joinF_eq (l : List Int) (h : ∀ x ∈ l, 0 ≤ x ∧ x < 256) : ∀ k, k ≤ piecesN l.length → joinF l k = l.take (40 * k) ++ List.replicate (40 * k - l.length) 0
  | 0, _ => by simp [joinF]
  | k + 1, hk => by
    have hlt : 40 * k < l.length := by unfold piecesN at hk; omega
    rw [joinF, joinF_eq l h k (by omega), chunkS, numsOf_append, numsOf_str _ (piece_bytes l k h), numsOf_zeros, show 40 * k - l.length = 0 by omega, List.replicate_zero, List.append_nil, ← List.append_assoc]
    have e : l.take (40 * k) ++ pieceL l k = l.take (40 * (k + 1)) := by
      unfold pieceL
      have h2 := List.take_append_drop (40 * k) (l.take (40 * k + min 40 (l.length - 40 * k)))
      rw [List.take_take, show min (40 * k) (40 * k + min 40 (l.length - 40 * k)) = 40 * k by omega] at h2
      rw [h2]
      by_cases hc : 40 * (k + 1) ≤ l.length
      · rw [show 40 * k + min 40 (l.length - 40 * k) = 40 * (k + 1) by omega]
      · rw [List.take_of_length_le (by omega), List.take_of_length_le (by omega)]
    rw [e, show 40 - min 40 (l.length - 40 * k) = 40 * (k + 1) - l.length by omega]
end Go.Proofs.Ytdhbdomjlggfgaa.Q
