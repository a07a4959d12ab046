import Derived.Test.YtodejilhgpejnaaGreatP17
import Derived.Test.YtodejilhgpejnaaGreatP15
namespace Go.Proofs.YtodejilhgpejnaaGreat.Q
open Go.RowKit Go.Proofs.YtodejilhgpejnaaGreatW.PrintWords Go.Proofs.YtodejilhgpejnaaGreatW.PrintLast Go.Proofs.YtodejilhgpejnaaGreatW.PrintMore
attribute [local go_sem] max2_int min2_int max_two min_two max_three min_three max_four min_four
set_option linter.unusedVariables false
set_option linter.unusedSimpArgs false
/-- A piece of forty bytes of which the first k are laid. -/
def laidF (l : List Int) (i k : Nat) : List Int := (List.range 40).map fun j => if j < k then rd l ((i + j : Nat) : Int) else 0
theorem laidF_len (l : List Int) (i k : Nat) : (laidF l i k).length = 40 := by unfold laidF; simp
theorem laidF_set (l : List Int) (i k : Nat) : (laidF l i k).set k (rd l ((i + k : Nat) : Int)) = laidF l i (k + 1) := by
  unfold laidF
  apply List.ext_getElem
  · simp
  · intro j h1 h2
    have hj : j < 40 := by simpa using h2
    rw [List.getElem_set]
    simp only [List.getElem_map, List.getElem_range]
    by_cases e : k = j
    · subst e; simp
    · rw [if_neg e]
      by_cases h : j < k
      · rw [if_pos h, if_pos (by omega)]
      · rw [if_neg h, if_neg (by omega)]
theorem laidF_get (l : List Int) (i k j : Nat) : (laidF l i k)[j]? = if j < 40 then some (if j < k then rd l ((i + j : Nat) : Int) else 0) else none := by
  unfold laidF
  rw [List.getElem?_map]
  by_cases h : j < 40
  · rw [List.getElem?_range h, if_pos h]; rfl
  · rw [List.getElem?_eq_none (by simpa using h), if_neg h]; rfl
theorem laidF_zero (l : List Int) (i : Nat) : laidF l i 0 = List.replicate 40 0 := by
  apply List.ext_getElem?
  intro j
  rw [laidF_get, List.getElem?_replicate]
  by_cases h : j < 40
  · rw [if_pos h, if_pos h, if_neg (by omega)]
  · rw [if_neg h, if_neg h]
theorem laidF_full (l : List Int) (k m : Nat) (hm : m = min 40 (l.length - 40 * k)) (hk : 40 * k < l.length) : laidF l (40 * k) m = pieceL l k ++ List.replicate (40 - m) 0 := by
  have hp : (pieceL l k).length = m := by unfold pieceL; simp; omega
  apply List.ext_getElem?
  intro j
  rw [laidF_get]
  by_cases h : j < m
  · rw [if_pos (by omega), if_pos h, List.getElem?_append_left (by omega)]
    unfold pieceL rd
    rw [List.getElem?_drop, List.getElem?_take_of_lt (by omega), Int.toNat_natCast, List.getD_eq_getElem?_getD, List.getElem?_eq_getElem (by omega)]
    rfl
  · rw [if_neg h, List.getElem?_append_right (by omega), List.getElem?_replicate, hp]
    by_cases h4 : j < 40
    · rw [if_pos h4, if_pos (by omega)]
    · rw [if_neg h4, if_neg (by omega)]
theorem strOfNums_app (a b : List Int) : strOfNums (a ++ b) = strOfNums a ++ strOfNums b := by
  unfold strOfNums
  rw [List.map_append]
  exact ByteArray.ext (by simp [ByteArray.data_append])
theorem strOfNums_zeros (m : Nat) : strOfNums (List.replicate m 0) = ⟨(Lib.repeatL [0] m).toArray⟩ := by
  unfold strOfNums
  rw [repeatL_zero, List.map_replicate]
  rfl
theorem laid_str (l : List Int) (k m : Nat) (hm : m = min 40 (l.length - 40 * k)) (hk : 40 * k < l.length) : strOfNums (laidF l (40 * k) m) = chunkS l k := by
  rw [laidF_full l k m hm hk, strOfNums_app, strOfNums_zeros]
  unfold chunkS
  rw [hm]
def zero40c : Array Value := (List.replicate 40 (Value.int .u8 0)).toArray
theorem R_zero40 (W : World) : Kd.R (Kd.int .u8) 5 (W.alloc (.cells zero40c 5)) W.heap.size (fun _ => True) (.slice (some ⟨W.heap.size, 0, none⟩) 40 40) (List.replicate 40 0) := by
  have h := World.ownsRow_lit (base := W.heap.size) (e := 5) (size := 1) W zero40c 40 (Nat.le_refl _) (by decide) (by decide)
  exact Kd.R_of_own (enc := Value.int .u8) (h1 := fun _ => rfl) (by simpa [zero40c, encs] using h) (fun _ _ => trivial)
end Go.Proofs.YtodejilhgpejnaaGreat.Q
