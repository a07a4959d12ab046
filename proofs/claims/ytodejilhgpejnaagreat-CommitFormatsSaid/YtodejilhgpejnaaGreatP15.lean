import Derived.Test.YtodejilhgpejnaaGreatP14
namespace Go.Proofs.YtodejilhgpejnaaGreat.Q
open Go.RowKit Go.Proofs.YtodejilhgpejnaaGreatW.PrintWords Go.Proofs.YtodejilhgpejnaaGreatW.PrintLast Go.Proofs.YtodejilhgpejnaaGreatW.PrintMore
attribute [local go_sem] max2_int min2_int max_two min_two max_three min_three max_four min_four
set_option linter.unusedVariables false
set_option linter.unusedSimpArgs false
theorem zeros_size (m : Nat) : (⟨(Lib.repeatL [0] m).toArray⟩ : ByteArray).size = m := by
  show (Lib.repeatL [0] m).toArray.size = _
  rw [List.size_toArray, Lib.repeatL_length]
  simp
/-- Every piece of a text is forty bytes long. -/
theorem chunkS_size (l : List Int) (k : Nat) (h : 40 * k < l.length) : (chunkS l k).size = 40 := by
  unfold chunkS
  rw [ByteArray.size_append', pieceL_size l k h, zeros_size]
  omega
/-- Numbers back from a string. -/
def numsOf (s : ByteArray) : List Int := s.data.toList.map (fun b => (b.toNat : Int))
theorem numsOf_append (a b : ByteArray) : numsOf (a ++ b) = numsOf a ++ numsOf b := by
  unfold numsOf
  simp [ByteArray.data_append]
theorem repeatL_zero (m : Nat) : Lib.repeatL [0] m = List.replicate m 0 := by
  induction m with
  | zero => rfl
  | succ m ih => rw [Lib.repeatL, ih]; rfl
theorem numsOf_str (l : List Int) (h : ∀ x ∈ l, 0 ≤ x ∧ x < 256) : numsOf (strOfNums l) = l := by
  unfold numsOf strOfNums
  induction l with
  | nil => rfl
  | cons x l ih =>
    have hx := h x (by simp)
    have := ih (fun y hy => h y (by simp [hy]))
    simp_all
    omega
theorem piece_bytes (l : List Int) (k : Nat) (h : ∀ x ∈ l, 0 ≤ x ∧ x < 256) : ∀ x ∈ pieceL l k, 0 ≤ x ∧ x < 256 := fun x hx => h x (List.mem_of_mem_take (List.mem_of_mem_drop hx))
end Go.Proofs.YtodejilhgpejnaaGreat.Q
