import Derived.Test.YtcdgbpojcdecbaaDoorPx13
import Derived.Test.YtcdgbpojcdecbaaDoorPx12
import Derived.Test.YtcdgbpojcdecbaaDoorPx11
import Derived.Test.YtcdgbpojcdecbaaDoorPx7
import Derived.Test.YtcdgbpojcdecbaaDoorPx20
import Derived.Test.YtcdgbpojcdecbaaDoorRd
namespace Go.Proofs.YtcdgbpojcdecbaaDoor.Pure
open Go.RowKit Go.Proofs.YtcdgbpojcdecbaaDoor.P Go.Proofs.YtcdgbpojcdecbaaDoor.Rd Go.Proofs.YtcdgbpojcdecbaaDoorW.PrintWords Go.Proofs.YtcdgbpojcdecbaaDoorW.PrintLast
set_option linter.unusedVariables false
set_option linter.unusedSimpArgs false

theorem NameJoins : ∀ (s t : ByteArray), s.size ≤ maxLen → t.size ≤ maxLen → ∃ k, assartlaw17_NameJoins.f k s t = some true := by
  intro s t hs ht
  refine ⟨30 + 1 + 1, ?_⟩
  unfold assartlaw17_NameJoins.f
  simp only [assartlaw17_shown.f, Option.bind_some]
  by_cases h1 : (s.size : Int) > 100
  · rw [if_pos h1]; rfl
  rw [if_neg h1]
  by_cases h2 : (t.size : Int) > 100
  · rw [if_pos h2]; rfl
  rw [if_neg h2]
  by_cases h3 : s.toList = ([47] : List UInt8)
  · rw [if_pos h3]; rfl
  rw [if_neg h3]
  by_cases h4 : t.toList = ([47] : List UInt8)
  · rw [h4]; rfl
  have h4b : (t.toList == ([47] : List UInt8)) = false := beq_eq_false_iff_ne.mpr h4
  rw [h4b]
  simp only [assartlaw17_NameJoins.j0]
  rw [if_neg (by decide)]
  obtain ⟨r, hr, hrc⟩ := path_eq s (by omega)
  obtain ⟨q, hq, hqc⟩ := path_eq t (by omega)
  have hst : (s ++ t).size ≤ 1000000000000 := by rw [ByteArray.size_append]; omega
  obtain ⟨u, hu, huc⟩ := path_eq (s ++ t) hst
  rw [hr, hq, hu]
  simp only [Option.bind_some]
  rw [if_pos (by omega)]
  rcases hrc with ⟨p, rfl, hp⟩ | ⟨rfl, _⟩
  case inr => rfl
  rcases hqc with ⟨p', rfl, hp'⟩ | ⟨rfl, _⟩
  case inr => rfl
  simp only [if_true, assartlaw17_NameJoins.j1, Option.bind_some, List.nil_append, List.length_nil]
  have l1 := (isPath_len hp).1
  have l2 := (isPath_len hp').1
  rw [if_neg (by decide), if_pos (by omega), if_pos (by omega)]
  have both : ∀ l, name_Path.f (s ++ t) = some l → ((p ++ p').length ≤ 20 → isPath (s ++ t) (p ++ p')) ∧ (20 < (p ++ p').length → l = ([], 1)) := by
    intro l hl
    cases hp with
    | root => exact absurd (by simp [ByteArray.toList_eq]) h3
    | go a az hn hc =>
      cases hp' with
      | root => exact absurd (by simp [ByteArray.toList_eq]) h4
      | go b bs hm hd =>
        have e : (⟨(slashed ((a :: az).map (·.data.toList))).toArray⟩ ++ ⟨(slashed ((b :: bs).map (·.data.toList))).toArray⟩ : ByteArray) = ⟨(slashed ((a :: (az ++ b :: bs)).map (·.data.toList))).toArray⟩ := by
          apply ByteArray.ext; apply Array.toList_inj.1
          have : (a :: (az ++ b :: bs)) = (a :: az) ++ (b :: bs) := rfl
          rw [this, List.map_append, slashed_append]
          simp
        have hall : ∀ x ∈ a :: (az ++ b :: bs), isNm x := by
          intro x hx
          rw [show (a :: (az ++ b :: bs)) = (a :: az) ++ (b :: bs) from rfl] at hx
          rcases List.mem_append.1 hx with hx | hx
          · exact hn x hx
          · exact hm x hx
        rw [e] at hl hst ⊢
        rw [← List.map_append, show (a :: az) ++ (b :: bs) = a :: (az ++ b :: bs) from rfl]
        refine ⟨fun hlen => isPath.go a (az ++ b :: bs) hall (by simpa using hlen), fun hlen => ?_⟩
        have := path_long a (az ++ b :: bs) hall (by simpa using hlen) (by
          change (slashed ((a :: (az ++ b :: bs)).map (·.data.toList))).toArray.size ≤ _ at hst
          rwa [List.size_toArray] at hst)
        rw [hl] at this
        exact Option.some.inj this
  obtain ⟨b1, b2⟩ := both u hu
  by_cases h20 : 20 < (p ++ p').length
  · rw [if_pos (by omega), b2 h20]; rfl
  · rw [if_neg (by omega)]
    have hP := b1 (by omega)
    have hu2 := (isPath_path hst hP).symm.trans hu
    obtain rfl := Option.some.inj hu2
    rw [isPath_join hP]
    simp only [Option.bind_some, if_true]
    rw [ints_some _ _ _ (by omega) (by omega)]
    simp only [decide_true, Option.bind_some, if_true]
    have hw : name_Within.f p (p ++ p') = some true := by
      unfold name_Within.f
      rw [if_pos (by omega)]
      simp
    rw [hw]
    simp only [Option.bind_some, if_true]
    rw [if_pos (by omega)]
    simp

end Go.Proofs.YtcdgbpojcdecbaaDoor.Pure
