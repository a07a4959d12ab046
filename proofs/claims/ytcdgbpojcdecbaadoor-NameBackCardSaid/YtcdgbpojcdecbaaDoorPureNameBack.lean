import Derived.Test.YtcdgbpojcdecbaaDoorPx13
import Derived.Test.YtcdgbpojcdecbaaDoorPx12
import Derived.Test.YtcdgbpojcdecbaaDoorPx1
import Derived.Test.YtcdgbpojcdecbaaDoorPx17
import Derived.Test.YtcdgbpojcdecbaaDoorRd
namespace Go.Proofs.YtcdgbpojcdecbaaDoor.Pure
open Go.RowKit Go.Proofs.YtcdgbpojcdecbaaDoor.P Go.Proofs.YtcdgbpojcdecbaaDoor.Rd Go.Proofs.YtcdgbpojcdecbaaDoorW.PrintWords Go.Proofs.YtcdgbpojcdecbaaDoorW.PrintLast
set_option linter.unusedVariables false
set_option linter.unusedSimpArgs false

theorem NameBack : ∀ (s : ByteArray) (n : Int) (l : List Int), s.size ≤ maxLen → (Lit.int .i64 n).wf = true → l.length ≤ 9223372036854775807 → (∀ x ∈ l, (Lit.int .i64 x).wf = true) → ∃ k, assartlaw17_NameBack.f k s n l = some true := by
  intro s n l hs hn hl1 hl2
  refine ⟨1000 + 1 + 1 + 1 + 1, ?_⟩
  unfold assartlaw17_NameBack.f
  simp only [assartlaw17_shown.f, Option.bind_some]
  by_cases h1 : (s.size : Int) > 300
  · rw [if_pos h1]; rfl
  rw [if_neg h1]
  by_cases h2 : (l.length : Int) > 40
  · rw [show decide ((l.length : Int) > 40) = true from decide_eq_true h2]; rfl
  rw [show decide ((l.length : Int) > 40) = false from decide_eq_false h2]
  have J3 : assartlaw17_NameBack.j3 (1000 + 1) l true false = some true := by
    simp only [assartlaw17_NameBack.j3]
    rw [if_neg (by decide)]
    obtain ⟨r, hr, (⟨v, rfl, hv⟩ | ⟨rfl, _⟩)⟩ := join_eq l
    · rw [hr]
      simp only [Option.bind_some]
      rw [isPath_path (by have := (isPath_len hv).2; omega) hv]
      simp only [Option.bind_some, if_true]
      rw [ints_some _ _ _ (by omega) (by omega)]
      simp
    · rw [hr]
      simp only [Option.bind_some]
      obtain ⟨q, hq, _⟩ := path_eq ⟨#[]⟩ (by decide)
      rw [hq]
      simp
  have J2 : assartlaw17_NameBack.j2 (1000 + 1 + 1) s l true false = some true := by
    simp only [assartlaw17_NameBack.j2]
    rw [if_neg (by decide)]
    obtain ⟨r, hr, (⟨p, rfl, hp⟩ | ⟨rfl, _⟩)⟩ := path_eq s (by omega)
    · rw [hr]
      simp only [Option.bind_some]
      rw [isPath_join hp]
      simp only [Option.bind_some, if_true]
      have hp20 := (isPath_len hp).1
      rw [show decide ((p.length : Int) > 20) = false from decide_eq_false (by omega)]
      exact J3
    · rw [hr]
      simp only [Option.bind_some]
      obtain ⟨q, hq, _⟩ := join_eq []
      rw [hq]
      simp only [Option.bind_some]
      rw [if_neg (by decide)]
      exact J3
  have J1 : assartlaw17_NameBack.j1 (1000 + 1 + 1 + 1) s n l true false = some true := by
    simp only [assartlaw17_NameBack.j1]
    rw [if_neg (by decide)]
    rw [text_eq]
    simp only [Option.bind_some]
    rw [of_eq]
    simp only [Option.bind_some]
    by_cases hno : isNo n
    · have hx := txStr_nm hno
      rw [if_pos hno]
      simp only [if_true]
      rw [if_pos hx.1, hx.2]
      simp only [if_true]
      rw [show (n != n) = false by simp]
      exact J2
    · rw [if_neg hno]
      rw [if_neg (by decide)]
      exact J2
  simp only [assartlaw17_NameBack.j0]
  rw [if_neg (by decide), of_eq]
  simp only [Option.bind_some]
  rw [text_eq]
  simp only [Option.bind_some]
  by_cases hnm : isNm s
  · have hx := nm_no hnm
    rw [if_pos hnm]
    simp only [if_true]
    rw [if_pos hx.1, hx.2]
    simp only [if_true]
    have h1 := hx.1.1
    have h2 := hx.1.2.1
    rw [if_neg (by omega), show decide (nmVal s.data.toList 0 > 531440) = false from decide_eq_false (by omega)]
    exact J1
  · rw [if_neg hnm, if_neg (by decide)]
    exact J1

end Go.Proofs.YtcdgbpojcdecbaaDoor.Pure
