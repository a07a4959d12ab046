import Derived.Test.YtodejilhgpejnaaGreatP11
namespace Go.Proofs.YtodejilhgpejnaaGreat.Q
open Go.RowKit Go.Proofs.YtodejilhgpejnaaGreatW.PrintWords Go.Proofs.YtodejilhgpejnaaGreatW.PrintLast Go.Proofs.YtodejilhgpejnaaGreatW.PrintMore
attribute [local go_sem] max2_int min2_int max_two min_two max_three min_three max_four min_four
set_option linter.unusedVariables false
set_option linter.unusedSimpArgs false
/-- Free cells in a row. -/
def zC (n : Nat) : List Value := (List.replicate n z4c).flatten
theorem zC_get (n : Nat) : ∀ j i, j < n → i < 4 → (zC n)[j * 4 + i]? = z4c[i]? := by
  induction n with
  | zero => intro j i hj; omega
  | succ n ih =>
    intro j i hj hi
    unfold zC at ih ⊢
    rw [List.replicate_succ, List.flatten_cons]
    cases j with
    | zero => rw [List.getElem?_append_left (by simp [z4c]; omega)]; simp
    | succ j => rw [List.getElem?_append_right (by simp [z4c]; omega), show (j + 1) * 4 + i - z4c.length = j * 4 + i by simp [z4c]; omega]; exact ih j i (by omega) hi
theorem zC_C (w : World) (n : Nat) (hn : n ≤ 100000) : ZC (w.alloc (.cells (zC n).toArray 75)) (some ⟨w.heap.size, 0, none⟩) n := by
  refine ⟨by simp, by omega, fun hn0 => ⟨⟨w.heap.size, 0, none⟩, rfl, fun j p hj => ?_⟩⟩
  have hjn : j < n := by have := (List.getElem?_eq_some_iff.1 hj).1; simpa using this
  have hp : p = z4c := by have := List.mem_of_getElem? hj; exact (List.mem_replicate.1 this).2
  subst hp
  refine ⟨z4c, rfl, ⟨rfl, by decide⟩, fun i u hu => ?_⟩
  have hi : i < 4 := (List.getElem?_eq_some_iff.1 hu).1
  have h := blk_cell (World.alloc_heap_new w (.cells (zC n).toArray 75)) (j * 4 + i)
  rw [show (Addr.add ⟨w.heap.size, 0, none⟩ (j * (Kd.raw 4).sz + i)) = ⟨w.heap.size, j * 4 + i, none⟩ by rw [show (Kd.raw 4).sz = 4 from rfl]; simp [Addr.add]; omega, h]
  have := zC_get n j i hjn hi
  rw [hu] at this
  simpa using this
theorem row_cells {w : World} {base n e sz : Nat} {v : Value} {cs : List Value} (hn : 0 < n) (h : w.ownsRow base e sz v n cs) : ∃ g cap, v = .slice (some ⟨g, 0, none⟩) n cap ∧ ∀ j u, cs[j]? = some u → w.cell? ⟨g, j, none⟩ = some u := by
  rcases h.2 with ⟨_, e0⟩ | ⟨g, cap, cur, rfl, _, hb, _, _, _, ht⟩
  · omega
  · refine ⟨g, cap, rfl, fun j u hu => ?_⟩
    rw [← ht] at hu
    rw [blk_cell hb j]
    have h1 := (List.getElem?_eq_some_iff.1 hu).1
    rw [List.getElem?_take_of_lt (by rw [List.length_take] at h1; omega)] at hu
    simpa using hu
end Go.Proofs.YtodejilhgpejnaaGreat.Q
