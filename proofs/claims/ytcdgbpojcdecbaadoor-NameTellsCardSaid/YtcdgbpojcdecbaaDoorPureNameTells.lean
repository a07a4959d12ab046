import Derived.Test.YtcdgbpojcdecbaaDoorPx15
import Derived.Test.YtcdgbpojcdecbaaDoorPx14
import Derived.Test.YtcdgbpojcdecbaaDoorPx13
import Derived.Test.YtcdgbpojcdecbaaDoorPx12
import Derived.Test.YtcdgbpojcdecbaaDoorPx11
import Derived.Test.YtcdgbpojcdecbaaDoorPx9
import Derived.Test.YtcdgbpojcdecbaaDoorPx7
import Derived.Test.YtcdgbpojcdecbaaDoorPx5
import Derived.Test.YtcdgbpojcdecbaaDoorPx3
import Derived.Test.YtcdgbpojcdecbaaDoorPx1
import Derived.Test.YtcdgbpojcdecbaaDoorPx16
import Derived.Test.YtcdgbpojcdecbaaDoorRd
namespace Go.Proofs.YtcdgbpojcdecbaaDoor.Pure
open Go.RowKit Go.Proofs.YtcdgbpojcdecbaaDoor.P Go.Proofs.YtcdgbpojcdecbaaDoor.Rd Go.Proofs.YtcdgbpojcdecbaaDoorW.PrintWords Go.Proofs.YtcdgbpojcdecbaaDoorW.PrintLast
set_option linter.unusedVariables false
set_option linter.unusedSimpArgs false

theorem bt_nat (s : ByteArray) (i : Nat) (h : i < s.size) : bt s (i : Int) = ((s[i]'h).toNat : Int) := by
  have := bt_at s (i : Int) (by simpa using h)
  rw [← this]
  congr 1
theorem rd_nat (l : List Int) (i : Nat) (h : i < l.length) : rd l (i : Int) = l[i] := rd_eq l i h
theorem ref_of_l0 (s : ByteArray) (h4 : s.size ≤ 4) : ∀ (d i k : Nat), i + d = s.size → d < k → nmOk (s.data.toList.take i) = true →
    assartref17_Of.l0 k s (nmVal (s.data.toList.take i) 0) (i : Int) = some (if nmOk s.data.toList = true then (nmVal s.data.toList 0, 0) else (0, 1)) := by
  intro d
  induction d with
  | zero =>
    intro i k hi hk ho
    obtain ⟨k, rfl⟩ : ∃ m, k = m + 1 := ⟨k - 1, by omega⟩
    have ht : s.data.toList.take i = s.data.toList := List.take_of_length_le (by simp; omega)
    rw [ht] at ho ⊢
    simp only [assartref17_Of.l0]
    rw [if_neg (by omega), if_pos ho]
  | succ d ih =>
    intro i k hi hk ho
    obtain ⟨k, rfl⟩ : ∃ m, k = m + 1 := ⟨k - 1, by omega⟩
    have hlt : i < s.size := by omega
    have hb := nmVal_bd _ ho (by simp; omega)
    simp only [assartref17_Of.l0]
    rw [if_pos (by omega), if_pos (by omega), bt_nat s i hlt]
    have hm : (s[i]'hlt) ∈ s.data.toList := by simp [ByteArray.getElem_eq_getElem_data]
    have bad : ¬ (97 ≤ (s[i]'hlt).toNat ∧ (s[i]'hlt).toNat ≤ 122) → nmOk s.data.toList = false := by
      intro hn
      rw [← Bool.not_eq_true]
      exact fun hc => hn ((nmOk_iff _).1 hc _ hm)
    by_cases h1 : ((s[i]'hlt).toNat : Int) < 97
    · rw [if_pos h1, bad (by omega)]; rfl
    · rw [if_neg h1]
      by_cases h2 : ((s[i]'hlt).toNat : Int) > 122
      · rw [if_pos h2, bad (by omega)]; rfl
      · rw [if_neg h2]
        have e := take_snoc s i hlt
        have ho' : nmOk (s.data.toList.take (i + 1)) = true := by rw [e, nmOk_snoc, ho]; simp; omega
        have hv : nmVal (s.data.toList.take (i + 1)) 0 = 27 * nmVal (s.data.toList.take i) 0 + (s[i]'hlt).toNat - 96 := by rw [e, nmVal_snoc]
        have := ih (i + 1) k (by omega) (by omega) ho'
        rw [hv] at this
        rw [show wrap64 (wrap64 (wrap64 (27 * nmVal (s.data.toList.take i) 0) + wrap64 ((s[i]'hlt).toNat : Int)) - 96) = 27 * nmVal (s.data.toList.take i) 0 + (s[i]'hlt).toNat - 96 by unfold wrap64; omega,
          show wrap64 ((i : Int) + 1) = ((i + 1 : Nat) : Int) by unfold wrap64; omega]
        exact this
theorem ref_of (s : ByteArray) (k : Nat) (hk : 7 ≤ k) : assartref17_Of.f k s = name_Of.f s := by
  rw [of_eq]
  unfold assartref17_Of.f
  obtain ⟨k, rfl⟩ : ∃ m, k = m + 1 := ⟨k - 1, by omega⟩
  by_cases h1 : (s.size : Int) < 1
  · rw [if_pos h1, if_neg (fun h : isNm s => by have := h.1; omega)]; rfl
  · rw [if_neg h1]
    by_cases h2 : (s.size : Int) > 4
    · rw [show decide ((s.size : Int) > 4) = true from decide_eq_true h2, if_neg (fun h : isNm s => by have := h.2.1; omega)]; rfl
    · rw [show decide ((s.size : Int) > 4) = false from decide_eq_false h2]
      simp only [assartref17_Of.j0]
      rw [if_neg (by decide)]
      have := ref_of_l0 s (by omega) s.size 0 k (by omega) (by omega) (by simp [nmOk])
      simp only [List.take_zero, nmVal] at this
      refine this.trans ?_
      by_cases h3 : nmOk s.data.toList = true
      · rw [if_pos h3, if_pos (show isNm s from ⟨by omega, by omega, h3⟩)]
      · rw [if_neg h3, if_neg (fun h : isNm s => h3 h.2.2)]
theorem ref_text_l0 : ∀ (j k : Nat) (n : Int) (s : ByteArray), j < k → 0 ≤ n → n < 27 ^ j → n ≤ 531440 → s.size + j ≤ 10 →
    assartref17_Text.l0 k n s = some (if (0 : Int) ∈ txDig j n then (⟨#[]⟩, 1) else (strOfNums ((txDig j n).map (96 + ·)).reverse ++ s, 0)) := by
  intro j
  induction j with
  | zero =>
    intro k n s hk h0 h1 h2 h3
    obtain ⟨k, rfl⟩ : ∃ m, k = m + 1 := ⟨k - 1, by omega⟩
    simp at h1
    simp only [assartref17_Text.l0]
    rw [if_neg (by omega)]
    simp [txDig]
    apply ByteArray.ext
    simp [strOfNums]
  | succ j ih =>
    intro k n s hk h0 h1 h2 h3
    obtain ⟨k, rfl⟩ : ∃ m, k = m + 1 := ⟨k - 1, by omega⟩
    simp only [assartref17_Text.l0]
    by_cases hn : n > 0
    · have ht : Int.tmod n 27 = n % 27 := Int.tmod_eq_emod_of_nonneg h0
      have hd : Int.tdiv n 27 = n / 27 := Int.tdiv_eq_ediv_of_nonneg h0
      have htx : txDig (j + 1) n = n % 27 :: txDig j (n / 27) := by rw [txDig, if_pos hn]
      rw [if_pos hn, ht, hd, htx]
      by_cases hz : n % 27 = 0
      · rw [if_pos hz, if_pos (by rw [hz]; simp)]
      · rw [if_neg hz]
        simp only [Option.bind_some]
        have hsz : (strOfNums [wrap64 (96 + n % 27) % 256]).size = 1 := rfl
        rw [hsz, if_pos (by omega), show wrap64 (n / 27) = n / 27 by unfold wrap64; omega]
        rw [Int.pow_succ] at h1
        rw [ih k (n / 27) _ (by omega) (by omega) (by omega) (by omega) (by rw [ByteArray.size_append, hsz]; omega)]
        by_cases hr : (0 : Int) ∈ txDig j (n / 27)
        · rw [if_pos hr, if_pos (List.mem_cons_of_mem _ hr)]
        · rw [if_neg hr, if_neg (by intro h; rcases List.mem_cons.1 h with h | h; exact hz h.symm; exact hr h)]
          congr 2
          rw [show wrap64 (96 + n % 27) % 256 = 96 + n % 27 by unfold wrap64; omega]
          apply ByteArray.ext
          simp [strOfNums]
    · obtain rfl : n = 0 := by omega
      rw [if_neg hn]
      simp [txDig]
      apply ByteArray.ext
      simp [strOfNums]
theorem ref_text (n : Int) (k : Nat) (hk : 7 ≤ k) : assartref17_Text.f k n = name_Text.f n := by
  unfold assartref17_Text.f name_Text.f
  obtain ⟨k, rfl⟩ : ∃ m, k = m + 1 := ⟨k - 1, by omega⟩
  by_cases h1 : n < 1
  · rw [if_pos h1, if_pos (.inl h1)]; rfl
  · rw [if_neg h1]
    by_cases h2 : n > 531440
    · rw [show decide (n > 531440) = true from decide_eq_true h2, if_pos (.inr (.inl h2))]; rfl
    · rw [show decide (n > 531440) = false from decide_eq_false h2]
      simp only [assartref17_Text.j0]
      rw [if_neg (by decide), ref_text_l0 4 k n _ (by omega) (by omega) (by omega) (by omega) (by decide)]
      by_cases h3 : (0 : Int) ∈ txDig 4 n
      · rw [if_pos h3, if_pos (.inr (.inr h3))]
      · rw [if_neg h3, if_neg (by rintro (h | h | h); exact h1 h; exact h2 h; exact h3 h)]
        congr 2
        apply ByteArray.ext
        simp
theorem ref_within_l0 (a b : List Int) (hab : a.length ≤ b.length) (hb : a.length ≤ 1000000) : ∀ (d i k : Nat), i + d = a.length → d < k → a.take i = b.take i → assartref17_Within.l0 k a b (i : Int) = some (decide (a = b.take a.length)) := by
  intro d
  induction d with
  | zero =>
    intro i k hi hk ht
    obtain ⟨k, rfl⟩ : ∃ m, k = m + 1 := ⟨k - 1, by omega⟩
    obtain rfl : i = a.length := by omega
    simp only [assartref17_Within.l0]
    rw [if_neg (by omega)]
    rw [List.take_length] at ht
    simp [← ht]
  | succ d ih =>
    intro i k hi hk ht
    obtain ⟨k, rfl⟩ : ∃ m, k = m + 1 := ⟨k - 1, by omega⟩
    simp only [assartref17_Within.l0]
    rw [if_pos (by omega), if_pos (by omega), if_pos (by omega), rd_nat a i (by omega), rd_nat b i (by omega), wrap_up (by omega) (by omega)]
    by_cases he : a[i]'(by omega) = b[i]'(by omega)
    · rw [if_pos he, show ((i : Int) + 1) = ((i + 1 : Nat) : Int) by omega]
      exact ih (i + 1) k (by omega) (by omega) (by rw [List.take_succ_eq_append_getElem (by omega), List.take_succ_eq_append_getElem (by omega), ht, he])
    · rw [if_neg he]
      have : ¬ a = b.take a.length := fun h => he (by
        have := congrArg (fun l : List Int => l[i]?) h
        simp only [List.getElem?_take] at this
        rw [if_pos (by omega), List.getElem?_eq_getElem (by omega), List.getElem?_eq_getElem (by omega)] at this
        exact Option.some.inj this)
      simp [this]
theorem ref_within (a b : List Int) (k : Nat) (hb : a.length ≤ 1000000) (hk : a.length < k) : assartref17_Within.f k a b = name_Within.f a b := by
  unfold assartref17_Within.f name_Within.f
  rw [if_pos hb]
  by_cases h : (a.length : Int) > (b.length : Int)
  · rw [if_pos h, show decide (a.length ≤ b.length) = false from decide_eq_false (by omega)]; rfl
  · rw [if_neg h, show decide (a.length ≤ b.length) = true from decide_eq_true (by omega)]; exact ref_within_l0 a b (by omega) hb a.length 0 k (by omega) (by omega) (by simp)
theorem ref_join_l0 (l : List Int) (h40 : l.length ≤ 40) : ∀ (d i k : Nat) (s : ByteArray), i + d = l.length → d + 10 ≤ k → s.size + 5 * d ≤ 1000 → i ≤ 20 →
    assartref17_Join.l0 k l s (i : Int) = some (if (∀ n ∈ l.drop i, isNo n) ∧ l.length ≤ 20 then (⟨(s.data.toList ++ slashed ((l.drop i).map fun n => (txStr n).data.toList)).toArray⟩, 0) else (⟨#[]⟩, 1)) := by
  intro d
  induction d with
  | zero =>
    intro i k s hi hk hs h20
    obtain ⟨k, rfl⟩ : ∃ m, k = m + 1 := ⟨k - 1, by omega⟩
    simp only [assartref17_Join.l0]
    rw [if_neg (by omega), List.drop_of_length_le (by omega), if_pos ⟨by simp, by omega⟩]
    simp [slashed]
  | succ d ih =>
    intro i k s hi hk hs h20
    obtain ⟨k, rfl⟩ : ∃ m, k = m + 1 := ⟨k - 1, by omega⟩
    simp only [assartref17_Join.l0]
    have hlt : i < l.length := by omega
    rw [if_pos (by omega), if_pos (by omega), rd_nat l i hlt, ref_text _ k (by omega), text_eq]
    simp only [Option.bind_some]
    rw [List.drop_eq_getElem_cons hlt]
    by_cases hn : isNo l[i]
    · rw [if_pos hn]
      simp only [if_true]
      have hz := (txStr_nm hn).1.2.1
      by_cases h20' : i = 20
      · rw [if_pos (by omega), if_neg (by rintro ⟨_, h⟩; omega)]
      · rw [if_neg (by omega), if_pos (by omega), if_pos (by rw [ByteArray.size_append]; have : (⟨#[47]⟩ : ByteArray).size = 1 := rfl; omega), wrap_up (by omega) (by omega),
          show ((i : Int) + 1) = ((i + 1 : Nat) : Int) by omega,
          ih (i + 1) k _ (by omega) (by omega) (by rw [ByteArray.size_append, ByteArray.size_append]; have : (⟨#[47]⟩ : ByteArray).size = 1 := rfl; omega) (by omega)]
        by_cases hr : (∀ n ∈ l.drop (i + 1), isNo n) ∧ l.length ≤ 20
        · rw [if_pos hr, if_pos ⟨fun m hm => by rcases List.mem_cons.1 hm with rfl | hm; exact hn; exact hr.1 m hm, hr.2⟩]
          have e : ((s ++ (⟨#[47]⟩ : ByteArray)) ++ txStr l[i]).data.toList = s.data.toList ++ 47 :: (txStr l[i]).data.toList := by simp
          rw [e]
          simp only [List.map_cons, slashed, List.append_assoc, List.cons_append]
        · rw [if_neg hr, if_neg (fun hh => hr ⟨fun m hm => hh.1 m (List.mem_cons_of_mem _ hm), hh.2⟩)]
    · rw [if_neg hn, if_neg (by decide), if_neg (fun hh => hn (hh.1 _ List.mem_cons_self))]
theorem ref_join (l : List Int) (k : Nat) (h40 : l.length ≤ 40) (hk : 60 ≤ k) : assartref17_Join.f k l = name_Join.f l := by
  unfold assartref17_Join.f name_Join.f
  by_cases h0 : l.length = 0
  · rw [if_pos (by omega), if_neg (by omega), if_pos h0]
  · rw [if_neg (by omega), if_neg h0]
    have := ref_join_l0 l h40 l.length 0 k ⟨#[]⟩ (by omega) (by omega) (by have : (⟨#[]⟩ : ByteArray).size = 0 := rfl; omega) (by omega)
    refine this.trans ?_
    by_cases h20 : 20 < l.length
    · rw [if_pos h20, if_neg (by rintro ⟨_, h⟩; omega)]
    · rw [if_neg h20, joinGo_eq l [] (by simp; omega)]
      by_cases hr : ∀ n ∈ l, isNo n
      · rw [if_pos hr, if_pos ⟨by simpa using hr, by omega⟩]; rfl
      · rw [if_neg hr, if_neg (fun hh => hr (by simpa using hh.1))]
theorem splitSl_take (l : List UInt8) (e : Nat) (hn : (47 : UInt8) ∉ l.take e) (he : l[e]? = some 47) : splitSl l = l.take e :: splitSl (l.drop (e + 1)) := by
  have hlt : e < l.length := (List.getElem?_eq_some_iff.1 he).1
  have h2 : l = l.take e ++ 47 :: l.drop (e + 1) := by
    conv => lhs; rw [← List.take_append_drop e l, List.drop_eq_getElem_cons hlt]
    rw [List.getElem?_eq_getElem hlt] at he
    rw [Option.some.inj he]
  conv => lhs; rw [h2]
  rw [splitSl_pre _ _ hn]
def mkB (l : List UInt8) : ByteArray := ⟨l.toArray⟩
theorem ext_mk (s : ByteArray) (a b : Nat) (hb : b ≤ s.size) : s.extract a b = mkB ((s.data.toList.drop a).take (b - a)) := by
  apply ByteArray.ext; apply Array.toList_inj.1
  unfold mkB
  simp [List.take_drop]
theorem get_data (s : ByteArray) (i : Nat) (h : i < s.size) : s.data.toList[i]? = some (s[i]'h) := by
  rw [List.getElem?_eq_getElem (by simpa using h)]; rfl
theorem bt_slash (s : ByteArray) (i : Nat) (h : i < s.size) : bt s (i : Int) = 47 ↔ s.data.toList[i]? = some 47 := by
  rw [bt_nat s i h, get_data s i h]
  constructor
  · intro e
    congr 1
    apply UInt8.toNat_inj.1
    show (s[i]'h).toNat = 47
    omega
  · intro e
    rw [Option.some.inj e]; rfl
def PathStep (s : ByteArray) (acc : List Int) (at_ : Nat) : Option (List Int × Int) :=
  if s.data.toList[at_]? = some 47 then pathGo ((splitSl (s.data.toList.drop (at_ + 1))).map mkB) acc else some ([], 1)
theorem ref_path_body (s : ByteArray) (acc : List Int) (at_ e k : Nat) (hs : s.size ≤ 1000000) (ha : at_ < e) (he : e ≤ s.size) (hk : 7 ≤ k) (h20 : acc.length ≤ 20)
    (hn : (47 : UInt8) ∉ (s.data.toList.drop (at_ + 1)).take (e - (at_ + 1))) (hend : e = s.size ∨ s.data.toList[e]? = some 47)
    (ih : ∀ acc' : List Int, acc'.length ≤ 20 → assartref17_Path.l0 k s acc' (e : Int) = if e = s.size then some (acc', 0) else PathStep s acc' e) :
    ((assartref17_Of.f k (s.extract ((at_ : Int) + 1).toNat ((e : Int)).toNat)).bind fun bt115 => (if 0 ≤ (at_ : Int) then (if (at_ : Int) < (s.size : Int) then (if (bt s (at_ : Int)) = 47 then (if bt115.2 = 0 then (if (acc.length : Int) = 20 then (some (([] : List Int), 1)) else (if acc.length < 17592186044416 then (assartref17_Path.l0 k s (acc ++ [bt115.1]) (e : Int)) else (none))) else (some (([] : List Int), 1))) else (some (([] : List Int), 1))) else (none)) else (none))) = PathStep s acc at_ := by
  rw [ref_of _ k hk, of_eq]
  simp only [Option.bind_some]
  rw [if_pos (by omega), if_pos (by omega)]
  unfold PathStep
  by_cases h47 : s.data.toList[at_]? = some 47
  · rw [if_pos ((bt_slash s at_ (by omega)).2 h47), if_pos h47]
    have hx : s.extract ((at_ : Int) + 1).toNat ((e : Int)).toNat = mkB ((s.data.toList.drop (at_ + 1)).take (e - (at_ + 1))) := by
      rw [show ((at_ : Int) + 1).toNat = at_ + 1 by omega, Int.toNat_natCast]
      exact ext_mk s (at_ + 1) e he
    rw [hx]
    have hsp : splitSl (s.data.toList.drop (at_ + 1)) = (s.data.toList.drop (at_ + 1)).take (e - (at_ + 1)) :: (if e = s.size then [] else splitSl (s.data.toList.drop (e + 1))) := by
      by_cases h : e = s.size
      · rw [if_pos h]
        have ht : (s.data.toList.drop (at_ + 1)).take (e - (at_ + 1)) = s.data.toList.drop (at_ + 1) := List.take_of_length_le (by simp; omega)
        rw [ht] at hn ⊢
        exact splitSl_one _ hn
      · rw [if_neg h]
        have h2 := hend.resolve_left h
        have := splitSl_take (s.data.toList.drop (at_ + 1)) (e - (at_ + 1)) hn (by rw [List.getElem?_drop, show at_ + 1 + (e - (at_ + 1)) = e by omega]; exact h2)
        rw [this, List.drop_drop, show at_ + 1 + (e - (at_ + 1) + 1) = e + 1 by omega]
    rw [hsp, List.map_cons]
    simp only [pathGo, of_eq, Option.bind_some]
    generalize mkB ((s.data.toList.drop (at_ + 1)).take (e - (at_ + 1))) = p
    by_cases hp : isNm p
    · rw [if_pos hp]
      simp only [if_true]
      by_cases h : acc.length = 20
      · rw [if_pos (by omega), if_pos (.inr h)]
      · rw [if_neg (by omega), if_pos (by omega), if_neg (by rintro (h' | h'); exact h' rfl; exact h h'), ih _ (by simp; omega)]
        by_cases hz : e = s.size
        · rw [if_pos hz, if_pos hz]; rfl
        · rw [if_neg hz, if_neg hz]
          unfold PathStep
          rw [if_pos (hend.resolve_left hz)]
    · rw [if_neg hp]
      rw [if_neg (by decide), if_pos (.inl (by decide))]
  · rw [if_neg (fun h => h47 ((bt_slash s at_ (by omega)).1 h)), if_neg h47]
theorem ref_path_l1 (s : ByteArray) (acc : List Int) (at_ : Nat) (hs : s.size ≤ 1000000) (hat : at_ < s.size) (h20 : acc.length ≤ 20)
    (ih : ∀ (e k : Nat) (acc' : List Int), at_ < e → e ≤ s.size → 3 * (s.size - e) + 20 ≤ k → acc'.length ≤ 20 → (e < s.size → s.data.toList[e]? = some 47) → assartref17_Path.l0 k s acc' (e : Int) = if e = s.size then some (acc', 0) else PathStep s acc' e) :
    ∀ (d e k : Nat), e + d = s.size → at_ < e → 3 * d + 21 ≤ k → (47 : UInt8) ∉ (s.data.toList.drop (at_ + 1)).take (e - (at_ + 1)) → assartref17_Path.l1 k s acc (at_ : Int) (e : Int) = PathStep s acc at_ := by
  intro d
  induction d with
  | zero =>
    intro e k he hae hk hn
    obtain ⟨k, rfl⟩ : ∃ m, k = m + 1 := ⟨k - 1, by omega⟩
    simp only [assartref17_Path.l1]
    rw [if_neg (by omega), wrap_up (by omega) (by omega), if_pos (by omega), if_pos (by omega), if_pos (by omega)]
    exact ref_path_body s acc at_ e k hs hae (by omega) (by omega) h20 hn (.inl (by omega)) (fun acc' h => ih e k acc' hae (by omega) (by omega) h (fun h => by omega))
  | succ d ihd =>
    intro e k he hae hk hn
    obtain ⟨k, rfl⟩ : ∃ m, k = m + 1 := ⟨k - 1, by omega⟩
    simp only [assartref17_Path.l1]
    rw [if_pos (by omega), if_pos (by omega)]
    by_cases h47 : s.data.toList[e]? = some 47
    · rw [if_pos ((bt_slash s e (by omega)).2 h47), wrap_up (by omega) (by omega), if_pos (by omega), if_pos (by omega), if_pos (by omega)]
      exact ref_path_body s acc at_ e k hs hae (by omega) (by omega) h20 hn (.inr h47) (fun acc' h => ih e k acc' hae (by omega) (by omega) h (fun _ => h47))
    · rw [if_neg (fun h => h47 ((bt_slash s e (by omega)).1 h)), wrap_up (by omega) (by omega), show ((e : Int) + 1) = ((e + 1 : Nat) : Int) by omega]
      refine ihd (e + 1) k (by omega) (by omega) (by omega) ?_
      rw [show e + 1 - (at_ + 1) = e - (at_ + 1) + 1 by omega, List.take_succ_eq_append_getElem (by simp; omega)]
      intro hm
      rcases List.mem_append.1 hm with hm | hm
      · exact hn hm
      · apply h47
        rw [List.getElem?_eq_getElem (by simp; omega)]
        simp only [List.mem_singleton, List.getElem_drop] at hm
        congr 1
        rw [hm]
        congr 1
        omega
theorem ref_path_l0 (s : ByteArray) (hs : s.size ≤ 1000000) : ∀ (m e k : Nat) (acc : List Int), s.size - e ≤ m → e ≤ s.size → 3 * (s.size - e) + 20 ≤ k → acc.length ≤ 20 → assartref17_Path.l0 k s acc (e : Int) = if e = s.size then some (acc, 0) else PathStep s acc e := by
  intro m
  induction m with
  | zero =>
    intro e k acc hm he hk h20
    obtain ⟨k, rfl⟩ : ∃ m, k = m + 1 := ⟨k - 1, by omega⟩
    simp only [assartref17_Path.l0]
    rw [if_neg (by omega), if_pos (by omega)]
  | succ m ih =>
    intro e k acc hm he hk h20
    obtain ⟨k, rfl⟩ : ∃ m, k = m + 1 := ⟨k - 1, by omega⟩
    simp only [assartref17_Path.l0]
    by_cases hz : e = s.size
    · rw [if_neg (by omega), if_pos hz]
    · rw [if_pos (by omega), if_neg hz, wrap_up (by omega) (by omega), show ((e : Int) + 1) = ((e + 1 : Nat) : Int) by omega]
      exact ref_path_l1 s acc e hs (by omega) h20 (fun e' k' acc' h1 h2 h3 h4 _ => ih e' k' acc' (by omega) h2 h3 h4) (s.size - (e + 1)) (e + 1) k (by omega) (by omega) (by omega) (by simp)
theorem ref_path (s : ByteArray) (k : Nat) (hs : s.size ≤ 300) (hk : 1000 ≤ k) : assartref17_Path.f k s = name_Path.f s := by
  unfold assartref17_Path.f name_Path.f
  by_cases h1 : s.toList = ([47] : List UInt8)
  · rw [if_pos h1, if_pos h1]
  rw [if_neg h1, if_neg h1, if_pos (show s.size ≤ 1000000000000 by omega), cut_eq]
  by_cases h2 : s.toList = ([] : List UInt8)
  · rw [if_pos h2]
    rw [ByteArray.toList_eq] at h2
    rw [h2]; rfl
  · rw [if_neg h2]
    have hpos : 0 < s.size := by
      rcases Nat.eq_zero_or_pos s.size with h | h
      · exfalso; apply h2; rw [ByteArray.toList_eq, ← List.length_eq_zero_iff]; simpa using h
      · exact h
    refine (ref_path_l0 s (by omega) s.size 0 k [] (by omega) (by omega) (by omega) (by simp)).trans ?_
    rw [if_neg (by omega)]
    unfold PathStep
    have e0 : s.data.toList.take 1 = [47] ↔ s.data.toList[0]? = some 47 := by
      rw [get_data s 0 hpos]
      have : s.data.toList.take 1 = [s[0]] := by
        have := take_snoc s 0 hpos
        simpa using this
      rw [this]
      simp
    by_cases h3 : s.data.toList[0]? = some 47
    · rw [if_pos h3, if_pos (e0.2 h3)]
      simp only [Option.bind_some, if_true]
      unfold partsOf
      have : (s.extract 1 s.size).data.toList = s.data.toList.drop (0 + 1) := by
        simp
        rw [List.take_of_length_le (by simp)]
      rw [this]; rfl
    · rw [if_neg h3, if_neg (fun h => h3 (e0.1 h))]; rfl
theorem NameTells : ∀ (a0_0 : ByteArray) (a0_1 : Int) (l0_2 : List Int) (l0_3 : List Int), (a0_0.size ≤ maxLen) → ((Lit.int .i64 a0_1).wf = true) → (l0_2.length ≤ 9223372036854775807) → (∀ x_ ∈ l0_2, (Lit.int .i64 x_).wf = true) → (l0_3.length ≤ 9223372036854775807) → (∀ x_ ∈ l0_3, (Lit.int .i64 x_).wf = true) → ∃ k, assartlaw17_NameTells.f k a0_0 a0_1 l0_2 l0_3 = some true := by
  intro s n l m _ _ _ _ _ _
  refine ⟨2000 + 1, ?_⟩
  unfold assartlaw17_NameTells.f
  simp only [assartlaw17_shown.f, Option.bind_some]
  by_cases h1 : (s.size : Int) > 300
  · rw [if_pos h1]; rfl
  rw [if_neg h1]
  by_cases h2 : (l.length : Int) > 40
  · rw [if_pos h2]; rfl
  rw [if_neg h2]
  by_cases h3 : (m.length : Int) > 40
  · rw [show decide ((m.length : Int) > 40) = true from decide_eq_true h3]; rfl
  rw [show decide ((m.length : Int) > 40) = false from decide_eq_false h3]
  simp only [assartlaw17_NameTells.j0]
  rw [if_neg (by decide), ref_of s _ (by decide), ref_text n _ (by decide), ref_path s _ (by omega) (by decide), ref_join l _ (by omega) (by decide), ref_within l m _ (by omega) (by omega), of_eq, text_eq]
  obtain ⟨p, hp, hpc⟩ := path_eq s (by omega)
  obtain ⟨q, hq, _⟩ := join_eq l
  rw [hp, hq]
  simp only [Option.bind_some, if_true]
  have hpl : p.1.length ≤ 1000 := by
    rcases hpc with ⟨x, rfl, hx⟩ | ⟨rfl, _⟩
    · have := (isPath_len hx).1; show x.length ≤ 1000; omega
    · simp
  rw [ints_some _ _ _ (by omega) (by omega)]
  have hw : ∃ b, name_Within.f l m = some b := by unfold name_Within.f; rw [if_pos (by omega)]; exact ⟨_, rfl⟩
  obtain ⟨b, hb⟩ := hw
  rw [hb]
  simp

end Go.Proofs.YtcdgbpojcdecbaaDoor.Pure
