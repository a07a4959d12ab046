-- By wip/tools/drive.py: the kit's print, with contracts of this session's own among the functions.
import Derived.Test.YtcdgbpojcdecbaaDoorPx0
import Derived.Test.YtcdgbpojcdecbaaDoorPx1
import Derived.Test.YtcdgbpojcdecbaaDoorPx3
import Derived.Test.YtcdgbpojcdecbaaDoorPx4
import Derived.Test.YtcdgbpojcdecbaaDoorPx5
import Derived.Test.YtcdgbpojcdecbaaDoorPx7
import Derived.Test.YtcdgbpojcdecbaaDoorPx9
import Derived.Test.YtcdgbpojcdecbaaDoorPx10
namespace Go.Proofs.YtcdgbpojcdecbaaDoor.P
open Go.RowKit Go.Proofs.YtcdgbpojcdecbaaDoorW.PrintWords Go.Proofs.YtcdgbpojcdecbaaDoorW.PrintLast Go.Proofs.YtcdgbpojcdecbaaDoorW.PrintMore
attribute [local go_sem] max2_int min2_int max_two min_two max_three min_three max_four min_four   -- for this text's walks alone
set_option linter.unusedVariables false
set_option linter.unusedSimpArgs false

-- GIVEN
/-! ### names and paths: plain facts -/
def V27 : List Int → Int
  | [] => 0
  | d :: ds => d + 27 * V27 ds
theorem V27_nn : ∀ (ds : List Int), (∀ d ∈ ds, 1 ≤ d ∧ d ≤ 26) → 0 ≤ V27 ds ∧ (ds = [] ∨ 1 ≤ V27 ds)
  | [], _ => by simp [V27]
  | d :: ds, h => by
    have h1 := h d (by simp)
    have h2 := V27_nn ds (fun x hx => h x (List.mem_cons_of_mem _ hx))
    simp only [V27]
    exact ⟨by omega, .inr (by omega)⟩
theorem txDig_V27 : ∀ (ds : List Int) (k : Nat), ds.length ≤ k → (∀ d ∈ ds, 1 ≤ d ∧ d ≤ 26) → txDig k (V27 ds) = ds
  | [], k, _, _ => by cases k <;> simp [txDig, V27]
  | d :: ds, 0, h, _ => by simp at h
  | d :: ds, k + 1, hl, h => by
    have h1 := h d (by simp)
    have h2 := V27_nn ds (fun x hx => h x (List.mem_cons_of_mem _ hx))
    have ih := txDig_V27 ds k (by simp at hl; omega) (fun x hx => h x (List.mem_cons_of_mem _ hx))
    rw [show V27 (d :: ds) = d + 27 * V27 ds from rfl, txDig]
    rw [if_pos (by omega), show (d + 27 * V27 ds) % 27 = d by omega, show (d + 27 * V27 ds) / 27 = V27 ds by omega, ih]
theorem V27_txDig : ∀ (k : Nat) (n : Int), 0 ≤ n → n < 27 ^ k → V27 (txDig k n) = n
  | 0, n, h0, h1 => by simp at h1; simp [txDig, V27]; omega
  | k + 1, n, h0, h1 => by
    simp only [txDig]
    split
    · rw [Int.pow_succ] at h1
      simp only [V27]
      rw [V27_txDig k (n / 27) (by omega) (by omega)]
      omega
    · simp [V27]; omega
theorem V27_bd : ∀ (ds : List Int) (k : Nat), ds.length ≤ k → (∀ d ∈ ds, 1 ≤ d ∧ d ≤ 26) → V27 ds < 27 ^ k
  | [], k, _, _ => by simp only [V27]; exact Int.pow_pos (by omega)
  | d :: ds, 0, h, _ => by simp at h
  | d :: ds, k + 1, hl, h => by
    have h1 := h d (by simp)
    have ih := V27_bd ds k (by simp at hl; omega) (fun x hx => h x (List.mem_cons_of_mem _ hx))
    simp only [V27]
    rw [Int.pow_succ]
    omega
theorem nmVal_V27 (r : List UInt8) : nmVal r.reverse 0 = V27 (r.map fun c => (c.toNat : Int) - 96) := by
  induction r with
  | nil => rfl
  | cons c r ih => simp only [List.reverse_cons, nmVal_snoc, ih, List.map_cons, V27]; omega
theorem nmVal_rev (l : List UInt8) : nmVal l 0 = V27 (l.reverse.map fun c => (c.toNat : Int) - 96) := by
  rw [← nmVal_V27, List.reverse_reverse]
theorem nmOk_iff (l : List UInt8) : nmOk l = true ↔ ∀ c ∈ l, 97 ≤ c.toNat ∧ c.toNat ≤ 122 := by
  simp [nmOk]
/-- A name: 1 to 4 letters. -/
def isNm (s : ByteArray) : Prop := 1 ≤ s.size ∧ s.size ≤ 4 ∧ nmOk s.data.toList = true
instance (s : ByteArray) : Decidable (isNm s) := inferInstanceAs (Decidable (_ ∧ _ ∧ _))
theorem of_eq (s : ByteArray) : name_Of.f s = some (if isNm s then (nmVal s.data.toList 0, 0) else (0, 1)) := by
  unfold name_Of.f
  by_cases h1 : s.size = 0
  · rw [if_pos (.inl h1), if_neg (fun h : isNm s => by have := h.1; omega)]
  · by_cases h2 : 4 < s.size
    · rw [if_pos (.inr (.inl h2)), if_neg (fun h : isNm s => by have := h.2.1; omega)]
    · by_cases h3 : nmOk s.data.toList = true
      · rw [if_neg (by rintro (h | h | h); exact h1 h; exact h2 h; rw [h3] at h; cases h), if_pos (show isNm s from ⟨by omega, by omega, h3⟩)]
      · rw [if_pos (.inr (.inr (by simpa using h3))), if_neg (fun h : isNm s => h3 h.2.2)]
/-- A number of a name. -/
def isNo (n : Int) : Prop := 1 ≤ n ∧ n ≤ 531440 ∧ (0 : Int) ∉ txDig 4 n
instance (n : Int) : Decidable (isNo n) := inferInstanceAs (Decidable (_ ∧ _ ∧ _))
def txStr (n : Int) : ByteArray := strOfNums ((txDig 4 n).map (96 + ·)).reverse
theorem text_eq (n : Int) : name_Text.f n = some (if isNo n then (txStr n, 0) else (⟨#[]⟩, 1)) := by
  unfold name_Text.f
  by_cases h1 : n < 1
  · rw [if_pos (.inl h1), if_neg (fun h : isNo n => by have := h.1; omega)]
  · by_cases h2 : 531440 < n
    · rw [if_pos (.inr (.inl h2)), if_neg (fun h : isNo n => by have := h.2.1; omega)]
    · by_cases h3 : (0 : Int) ∈ txDig 4 n
      · rw [if_pos (.inr (.inr h3)), if_neg (fun h : isNo n => h.2.2 h3)]
      · rw [if_neg (by rintro (h | h | h); exact h1 h; exact h2 h; exact h3 h), if_pos (show isNo n from ⟨by omega, by omega, h3⟩)]; rfl
theorem isNo_dig {n : Int} (h : isNo n) : ∀ d ∈ txDig 4 n, 1 ≤ d ∧ d ≤ 26 := by
  intro d hd
  have h1 := txDig_rg 4 n d hd
  have : d ≠ 0 := fun e => h.2.2 (e ▸ hd)
  omega
theorem txStr_list (n : Int) : (txStr n).data.toList = ((txDig 4 n).map fun d => UInt8.ofNat (96 + d).toNat).reverse := by
  unfold txStr strOfNums
  simp [List.map_reverse]
theorem ofNat_96 {d : Int} (h : 1 ≤ d ∧ d ≤ 26) : ((UInt8.ofNat (96 + d).toNat).toNat : Int) = 96 + d := by
  rw [UInt8.toNat_ofNat', Nat.mod_eq_of_lt (by omega)]
  omega
theorem txStr_nm {n : Int} (h : isNo n) : isNm (txStr n) ∧ nmVal (txStr n).data.toList 0 = n := by
  have hd := isNo_dig h
  have hl := txDig_len 4 n
  have hv : V27 (txDig 4 n) = n := V27_txDig 4 n (by have := h.1; omega) (by have := h.2.1; omega)
  have hne : txDig 4 n ≠ [] := by intro e; rw [e] at hv; simp [V27] at hv; have := h.1; omega
  have hsz : (txStr n).size = (txDig 4 n).length := by
    have := congrArg List.length (txStr_list n)
    simpa using this
  refine ⟨⟨?_, by omega, ?_⟩, ?_⟩
  · rw [hsz]; exact List.length_pos_iff.2 hne
  · rw [nmOk_iff, txStr_list]
    intro c hc
    obtain ⟨d, hd', rfl⟩ := List.mem_map.1 (List.mem_reverse.1 hc)
    have := ofNat_96 (hd d hd')
    have := hd d hd'
    omega
  · rw [nmVal_rev, txStr_list, List.reverse_reverse, List.map_map]
    have e : (txDig 4 n).map ((fun c : UInt8 => (c.toNat : Int) - 96) ∘ fun d => UInt8.ofNat (96 + d).toNat) = txDig 4 n := by
      conv => rhs; rw [← List.map_id (txDig 4 n)]
      refine List.map_congr_left fun d hd' => ?_
      simp only [Function.comp, id]
      rw [ofNat_96 (hd d hd')]
      omega
    rw [e, hv]
theorem nm_no {s : ByteArray} (h : isNm s) : isNo (nmVal s.data.toList 0) ∧ txStr (nmVal s.data.toList 0) = s := by
  have hb := nmVal_bd s.data.toList h.2.2 (by simpa using h.2.1)
  have hc := (nmOk_iff _).1 h.2.2
  have hd : ∀ d ∈ s.data.toList.reverse.map (fun c => (c.toNat : Int) - 96), 1 ≤ d ∧ d ≤ 26 := by
    intro d hd
    obtain ⟨c, hc', rfl⟩ := List.mem_map.1 hd
    have := hc c (List.mem_reverse.1 hc')
    omega
  have ht : txDig 4 (nmVal s.data.toList 0) = s.data.toList.reverse.map (fun c => (c.toNat : Int) - 96) := by
    rw [nmVal_rev]
    exact txDig_V27 _ 4 (by simp; exact h.2.1) hd
  have hne : s.data.toList ≠ [] := by intro e; have e1 := congrArg List.length e; have e2 := h.1; simp only [Array.length_toList, List.length_nil] at e1; change s.size = 0 at e1; omega
  refine ⟨⟨hb.2.2.resolve_left hne, hb.2.1, ?_⟩, ?_⟩
  · rw [ht]; intro h0; have := hd 0 h0; omega
  · apply ByteArray.ext
    apply Array.toList_inj.1
    rw [txStr_list, ht, List.map_map, ← List.map_reverse, List.reverse_reverse]
    conv => rhs; rw [← List.map_id s.data.toList]
    refine List.map_congr_left fun c hc' => ?_
    have := hc c hc'
    simp only [Function.comp, id]
    rw [show (96 + ((c.toNat : Int) - 96)).toNat = c.toNat by omega]
    exact UInt8.ofNat_toNat

theorem splitSl_pre (t r : List UInt8) (h : (47 : UInt8) ∉ t) : splitSl (t ++ 47 :: r) = t :: splitSl r := by
  induction t with
  | nil => simp [splitSl]
  | cons c t ih =>
    have hc : c ≠ 47 := fun e => h (by simp [e])
    have h' : (47 : UInt8) ∉ t := fun e => h (List.mem_cons_of_mem _ e)
    simp only [List.cons_append, splitSl]
    rw [if_neg hc, ih h']
theorem splitSl_one (t : List UInt8) (h : (47 : UInt8) ∉ t) : splitSl t = [t] := by
  induction t with
  | nil => rfl
  | cons c t ih =>
    have hc : c ≠ 47 := fun e => h (by simp [e])
    simp only [splitSl]
    rw [if_neg hc, ih (fun e => h (List.mem_cons_of_mem _ e))]
def slashed : List (List UInt8) → List UInt8
  | [] => []
  | t :: ts => 47 :: (t ++ slashed ts)
theorem slashed_split (l : List UInt8) : slashed (splitSl l) = 47 :: l := by
  induction l with
  | nil => rfl
  | cons c l ih =>
    simp only [splitSl]
    by_cases hc : c = 47
    · rw [if_pos hc, slashed, ih, hc]; rfl
    · rw [if_neg hc]
      have hne := splitSl_ne l
      split
      · rename_i p ps hps
        rw [hps, slashed] at ih
        simp only [slashed, List.cons_append]
        injection ih with _ ih
        rw [ih]
      · rename_i hps
        exact absurd hps hne
theorem split_slashed (t : List UInt8) (ts : List (List UInt8)) (h : ∀ x ∈ t :: ts, (47 : UInt8) ∉ x) : splitSl (t ++ slashed ts) = t :: ts := by
  induction ts generalizing t with
  | nil => rw [slashed, List.append_nil]; exact splitSl_one t (h t (by simp))
  | cons u ts ih =>
    rw [slashed, splitSl_pre t _ (h t (by simp)), ih u (fun x hx => h x (List.mem_cons_of_mem _ hx))]
theorem nm_no_slash {s : ByteArray} (h : isNm s) : (47 : UInt8) ∉ s.data.toList := by
  intro hm
  have := (nmOk_iff _).1 h.2.2 47 hm
  simp at this
/-- What a row of parts comes to. -/
theorem pathGo_eq (ps : List ByteArray) : ∀ acc : List Int, acc.length ≤ 20 → pathGo ps acc = some (if (∀ p ∈ ps, isNm p) ∧ acc.length + ps.length ≤ 20 then (acc ++ ps.map (fun p => nmVal p.data.toList 0), 0) else ([], 1)) := by
  induction ps with
  | nil => intro acc h; simp [pathGo, h]
  | cons p ps ih =>
    intro acc h
    simp only [pathGo, of_eq, Option.bind_some]
    by_cases hp : isNm p
    · rw [if_pos hp]
      by_cases h20 : acc.length = 20
      · rw [if_pos (.inr h20), if_neg (by rintro ⟨_, h⟩; simp at h; omega)]
      · rw [if_neg (by rintro (h | h); exact h rfl; exact h20 h), ih _ (by simp; omega)]
        congr 1
        by_cases hr : (∀ p ∈ ps, isNm p) ∧ acc.length + (p :: ps).length ≤ 20
        · rw [if_pos ⟨hr.1, by have := hr.2; simp at *; omega⟩, if_pos ⟨fun q hq => by rcases List.mem_cons.1 hq with rfl | hq; exact hp; exact hr.1 q hq, hr.2⟩]
          simp
        · rw [if_neg (fun hh => hr ⟨hh.1, by have := hh.2; simp at *; omega⟩), if_neg (fun hh => hr ⟨fun q hq => hh.1 q (List.mem_cons_of_mem _ hq), hh.2⟩)]
    · rw [if_neg hp, if_pos (.inl (by decide)), if_neg (fun hh => hp (hh.1 p (by simp)))]
/-- A path: '/', or slashed names, at most 20. -/
inductive isPath : ByteArray → List Int → Prop
  | root : isPath ⟨#[47]⟩ []
  | go (p : ByteArray) (ps : List ByteArray) : (∀ q ∈ p :: ps, isNm q) → (p :: ps).length ≤ 20 → isPath ⟨(slashed ((p :: ps).map (·.data.toList))).toArray⟩ ((p :: ps).map fun q => nmVal q.data.toList 0)
theorem cut_eq (s : ByteArray) : strings_CutPrefix.f s ⟨#[47]⟩ = some (if s.data.toList.take 1 = [47] then (s.extract 1 s.size, true) else (s, false)) := by
  unfold strings_CutPrefix.f stringslite_CutPrefix.f stringslite_HasPrefix.f
  by_cases h1 : 1 ≤ s.size
  · have e : ((⟨#[47]⟩ : ByteArray).size : Int) = 1 := rfl
    simp only [e, ByteArray.toList_eq]
    rw [if_pos (show (s.size : Int) ≥ 1 by omega), if_pos (by decide), if_pos (show (1 : Int) ≤ s.size by omega)]
    simp only [Option.bind_some]
    have e2 : (s.extract 0 (1 : Int).toNat).data.toList = s.data.toList.take 1 := by simp
    rw [e2]
    by_cases h : s.data.toList.take 1 = [47]
    · rw [h]
      simp
      rw [if_pos (by omega)]; rfl
    · have : (s.data.toList.take 1 == (#[47] : Array UInt8).toList) = false := by simpa using h
      rw [this, if_neg (by decide), if_neg h]; rfl
  · have h0 : s.data.toList = [] := by rw [← List.length_eq_zero_iff, Array.length_toList]; change s.size = 0; omega
    have e : ((⟨#[47]⟩ : ByteArray).size : Int) = 1 := rfl
    rw [e, if_neg (by omega), h0]; rfl
theorem map_self (l : List ByteArray) : (l.map (·.data.toList)).map (fun l => (⟨l.toArray⟩ : ByteArray)) = l := by
  rw [List.map_map]
  conv => rhs; rw [← List.map_id l]
  exact List.map_congr_left fun q _ => by cases q; simp
theorem path_eq (s : ByteArray) (hs : s.size ≤ 1000000000000) : ∃ r, name_Path.f s = some r ∧ ((∃ l, r = (l, 0) ∧ isPath s l) ∨ (r = ([], 1) ∧ ∀ l, ¬ isPath s l)) := by
  unfold name_Path.f
  by_cases h1 : s.toList = ([47] : List UInt8)
  · rw [if_pos h1]
    refine ⟨_, rfl, .inl ⟨[], rfl, ?_⟩⟩
    have : s = ⟨#[47]⟩ := by
      apply ByteArray.ext; apply Array.toList_inj.1; rw [← ByteArray.toList_eq]; exact h1
    rw [this]; exact .root
  rw [if_neg h1, if_pos hs, cut_eq]
  by_cases h2 : s.data.toList.take 1 = [47]
  · rw [if_pos h2]
    simp only [Option.bind_some, if_true]
    rw [pathGo_eq _ _ (by simp)]
    have hl : s.data.toList = 47 :: (s.extract 1 s.size).data.toList := by
      have e : (s.extract 1 s.size).data.toList = s.data.toList.drop 1 := by
        simp
        rw [List.take_of_length_le (by simp)]
      rw [e]
      conv => lhs; rw [← List.take_append_drop 1 s.data.toList, h2]
      rfl
    have hparts : s = ⟨(slashed ((partsOf (s.extract 1 s.size)).map (·.data.toList))).toArray⟩ := by
      apply ByteArray.ext; apply Array.toList_inj.1
      unfold partsOf
      rw [List.map_map, hl, ← slashed_split]
      simp only [Function.comp_def, List.map_id']
    have hne : partsOf (s.extract 1 s.size) ≠ [] := by
      unfold partsOf; intro h; exact splitSl_ne _ (List.map_eq_nil_iff.1 h)
    refine ⟨_, rfl, ?_⟩
    split
    · rename_i hh
      left
      refine ⟨_, rfl, ?_⟩
      generalize partsOf (s.extract 1 s.size) = P at *
      cases P with
      | nil => exact absurd rfl hne
      | cons p ps =>
        have := isPath.go p ps hh.1 (by simpa using hh.2)
        rw [hparts]
        simpa using this
    · rename_i hh
      right
      refine ⟨rfl, fun l hp => hh ?_⟩
      cases hp with
      | root => exact absurd (by simp [ByteArray.toList_eq]) h1
      | go p ps hn hc =>
        have e1 : (ByteArray.extract ⟨(slashed ((p :: ps).map (·.data.toList))).toArray⟩ 1 (ByteArray.mk (slashed ((p :: ps).map (·.data.toList))).toArray).size).data.toList = p.data.toList ++ slashed (ps.map (·.data.toList)) := by
          have := hl
          simp only [List.map_cons, slashed] at this ⊢
          exact (List.cons.inj this).2.symm
        have e2 : partsOf (ByteArray.extract ⟨(slashed ((p :: ps).map (·.data.toList))).toArray⟩ 1 (ByteArray.mk (slashed ((p :: ps).map (·.data.toList))).toArray).size) = p :: ps := by
          unfold partsOf
          rw [e1, split_slashed _ _ (by
            intro x hx
            rcases List.mem_cons.1 hx with rfl | hx
            · exact nm_no_slash (hn p (by simp))
            · obtain ⟨q, hq, rfl⟩ := List.mem_map.1 hx
              exact nm_no_slash (hn q (List.mem_cons_of_mem _ hq)))]
          exact map_self (p :: ps)
        rw [e2]
        exact ⟨hn, by simpa using hc⟩
  · rw [if_neg h2]
    refine ⟨_, rfl, .inr ⟨by simp, fun l hp => h2 ?_⟩⟩
    cases hp with
    | root => rfl
    | go p ps hn hc => simp [slashed]
theorem joinGo_eq (l : List Int) : ∀ s : List UInt8, s.length + 5 * l.length ≤ 1000000 → joinGo l s = some (if ∀ n ∈ l, isNo n then (⟨(s ++ slashed (l.map fun n => (txStr n).data.toList)).toArray⟩, 0) else (⟨#[]⟩, 1)) := by
  induction l with
  | nil => intro s _; simp [joinGo, slashed]
  | cons n l ih =>
    intro s hs
    simp only [joinGo, text_eq, Option.bind_some]
    by_cases hn : isNo n
    · have hz := (txStr_nm hn).1.2.1
      simp only [List.length_cons] at hs
      rw [if_pos hn, if_pos rfl, if_pos (by show s.length + 1 + (txStr n).size ≤ 1000000; omega), ih _ (by
        simp only [List.length_append, List.length_cons, Array.length_toList]
        change s.length + ((txStr n).size + 1) + 5 * l.length ≤ 1000000
        omega)]
      by_cases hr : ∀ n ∈ l, isNo n
      · rw [if_pos hr, if_pos (fun m hm => by rcases List.mem_cons.1 hm with rfl | hm; exact hn; exact hr m hm)]
        simp [slashed]
      · rw [if_neg hr, if_neg (fun hh => hr fun m hm => hh m (List.mem_cons_of_mem _ hm))]
    · rw [if_neg hn, if_neg (by decide), if_neg (fun hh => hn (hh n (by simp)))]
theorem join_eq (l : List Int) : ∃ r, name_Join.f l = some r ∧ ((∃ v, r = (v, 0) ∧ isPath v l) ∨ (r = (⟨#[]⟩, 1) ∧ ∀ v, ¬ isPath v l)) := by
  unfold name_Join.f
  by_cases h1 : 20 < l.length
  · rw [if_pos h1]
    refine ⟨_, rfl, .inr ⟨rfl, fun v hp => ?_⟩⟩
    cases hp with
    | root => simp at h1
    | go p ps hn hc => simp at h1 hc; omega
  rw [if_neg h1]
  by_cases h2 : l.length = 0
  · rw [if_pos h2]
    obtain rfl := List.length_eq_zero_iff.1 h2
    exact ⟨_, rfl, .inl ⟨_, rfl, .root⟩⟩
  rw [if_neg h2, joinGo_eq l [] (by simp; omega)]
  refine ⟨_, rfl, ?_⟩
  split
  · rename_i hh
    left
    refine ⟨_, rfl, ?_⟩
    cases l with
    | nil => simp at h2
    | cons n l =>
      have e := isPath.go (txStr n) (l.map txStr) (by
        intro q hq
        rcases List.mem_cons.1 hq with rfl | hq
        · exact (txStr_nm (hh n (by simp))).1
        · obtain ⟨m, hm, rfl⟩ := List.mem_map.1 hq
          exact (txStr_nm (hh m (List.mem_cons_of_mem _ hm))).1) (by simp at h1 ⊢; omega)
      have e3 : (txStr n :: l.map txStr).map (fun q => nmVal q.data.toList 0) = n :: l := by
        simp only [List.map_cons, List.map_map]
        rw [(txStr_nm (hh n (by simp))).2]
        congr 1
        conv => rhs; rw [← List.map_id l]
        exact List.map_congr_left fun m hm => (txStr_nm (hh m (List.mem_cons_of_mem _ hm))).2
      rw [e3] at e
      simpa [List.map_map, Function.comp_def] using e
  · rename_i hh
    right
    refine ⟨rfl, fun v hp => hh ?_⟩
    cases hp with
    | root => simp
    | go p ps hn hc =>
      intro n hm
      obtain ⟨q, hq, rfl⟩ := List.mem_map.1 hm
      exact (nm_no (hn q hq)).1
theorem isPath_join {s : ByteArray} {l : List Int} (h : isPath s l) : name_Join.f l = some (s, 0) := by
  obtain ⟨r, hr, (⟨v, rfl, hv⟩ | ⟨_, hn⟩)⟩ := join_eq l
  · rw [hr]
    cases h with
    | root => cases hv with
      | root => rfl
    | go p ps hn hc =>
      generalize hL : (p :: ps).map (fun q => nmVal q.data.toList 0) = L at hv
      cases hv with
      | root => simp at hL
      | go q qs hm hd =>
        have e : ∀ (a b : List ByteArray), (∀ x ∈ a, isNm x) → (∀ x ∈ b, isNm x) → a.map (fun q => nmVal q.data.toList 0) = b.map (fun q => nmVal q.data.toList 0) → a = b := by
          intro a
          induction a with
          | nil => intro b _ _ h; exact (List.map_eq_nil_iff.1 h.symm).symm
          | cons x a ih =>
            intro b ha hb h
            cases b with
            | nil => simp at h
            | cons y b =>
              simp only [List.map_cons, List.cons.injEq] at h
              have := (nm_no (ha x (by simp))).2
              rw [h.1, (nm_no (hb y (by simp))).2] at this
              rw [this, ih b (fun z hz => ha z (List.mem_cons_of_mem _ hz)) (fun z hz => hb z (List.mem_cons_of_mem _ hz)) h.2]
        rw [e _ _ hn hm hL]
  · exact absurd h (hn s)
theorem isPath_path {s : ByteArray} {l : List Int} (hs : s.size ≤ 1000000000000) (h : isPath s l) : name_Path.f s = some (l, 0) := by
  obtain ⟨r, hr, (⟨v, rfl, hv⟩ | ⟨_, hn⟩)⟩ := path_eq s hs
  · rw [hr]
    generalize hS : s = S at hv
    cases h with
    | root =>
      cases hv with
      | root => rfl
      | go p ps hn hc =>
        exfalso
        have hS := congrArg (fun x : ByteArray => x.data.toList) hS
        simp only [List.map_cons, slashed] at hS
        have h1 := (hn p (by simp)).1
        have hl := congrArg List.length hS
        simp at hl
        rw [hl.1] at h1
        exact absurd h1 (by decide)
    | go p ps hn hc =>
      cases hv with
      | root =>
        exfalso
        have hS := congrArg (fun x : ByteArray => x.data.toList) hS
        simp only [List.map_cons, slashed] at hS
        have h1 := (hn p (by simp)).1
        have hl := congrArg List.length hS
        simp at hl
        rw [hl.1] at h1
        exact absurd h1 (by decide)
      | go q qs hm hd =>
        have hS := congrArg (fun x : ByteArray => x.data.toList) hS
        simp only [List.map_cons, slashed] at hS
        have hS := (List.cons.inj hS).2
        have slash : ∀ (a : ByteArray) (b : List ByteArray), (∀ x ∈ a :: b, isNm x) → splitSl (a.data.toList ++ slashed (b.map (·.data.toList))) = (a :: b).map (·.data.toList) := by
          intro a b hab
          exact split_slashed _ _ (by
            intro x hx
            rcases List.mem_cons.1 hx with rfl | hx
            · exact nm_no_slash (hab a (by simp))
            · obtain ⟨q, hq, rfl⟩ := List.mem_map.1 hx
              exact nm_no_slash (hab q (List.mem_cons_of_mem _ hq)))
        have e := slash p ps hn
        rw [hS, slash q qs hm] at e
        have := congrArg (List.map fun l : List UInt8 => (⟨l.toArray⟩ : ByteArray)) e
        rw [map_self, map_self] at this
        rw [this]
  · exact absurd h (hn l)
theorem isPath_len {s : ByteArray} {l : List Int} (h : isPath s l) : l.length ≤ 20 ∧ s.size ≤ 101 := by
  have hj := isPath_join h
  cases h with
  | root => simp; decide
  | go p ps hn hc =>
    refine ⟨by simpa using hc, ?_⟩
    have e : ∀ (a : List ByteArray), (∀ x ∈ a, isNm x) → (slashed (a.map (·.data.toList))).length ≤ 5 * a.length := by
      intro a
      induction a with
      | nil => simp [slashed]
      | cons x a ih =>
        intro ha
        have h1 := (ha x (by simp)).2.1
        have h2 := ih (fun z hz => ha z (List.mem_cons_of_mem _ hz))
        simp only [List.map_cons, slashed, List.length_cons, List.length_append, Array.length_toList]
        change x.size + _ + 1 ≤ _
        omega
    have := e _ hn
    show (slashed ((p :: ps).map (·.data.toList))).toArray.size ≤ 101
    rw [List.size_toArray]
    omega
theorem ints_tells (a b : List Int) (hl : a.length = b.length) (hb : a.length ≤ 1000000) : ∀ (d i k : Nat), i + d = a.length → d < k → a.take i = b.take i → assartref07_Ints.l0 k a b (i : Int) = some (decide (a = b)) := by
  intro d
  induction d with
  | zero =>
    intro i k hi hk ht
    obtain ⟨k, rfl⟩ : ∃ m, k = m + 1 := ⟨k - 1, by omega⟩
    have : a = b := by rwa [List.take_of_length_le (by omega), List.take_of_length_le (by omega)] at ht
    simp only [assartref07_Ints.l0]
    rw [if_neg (by omega), this]; simp
  | succ d ih =>
    intro i k hi hk ht
    obtain ⟨k, rfl⟩ : ∃ m, k = m + 1 := ⟨k - 1, by omega⟩
    simp only [assartref07_Ints.l0]
    rw [if_pos (by omega), if_pos (by omega), if_pos (by omega), rd_eq a i (by omega), rd_eq b i (by omega), wrap_up (by omega) (by omega)]
    by_cases he : a[i]'(by omega) = b[i]'(by omega)
    · rw [if_pos he, show ((i : Int) + 1) = ((i + 1 : Nat) : Int) by omega]
      exact ih (i + 1) k (by omega) (by omega) (by rw [List.take_succ_eq_append_getElem (by omega), List.take_succ_eq_append_getElem (by omega), ht, he])
    · rw [if_neg he]
      have : ¬ a = b := fun h => he (by subst h; rfl)
      simp [this]
theorem ints_some (a b : List Int) (k : Nat) (hk : a.length < k) (hb : a.length ≤ 1000000) : assartref07_Ints.f k a b = some (decide (a = b)) := by
  unfold assartref07_Ints.f
  by_cases hl : a.length = b.length
  · rw [if_pos (by omega)]
    exact ints_tells a b hl hb a.length 0 _ (by omega) (by omega) (by simp)
  · rw [if_neg (by omega)]
    have : ¬ a = b := fun h => hl (by rw [h])
    simp [this]
theorem slashed_inj (p : ByteArray) (ps : List ByteArray) (q : ByteArray) (qs : List ByteArray) (hn : ∀ x ∈ p :: ps, isNm x) (hm : ∀ x ∈ q :: qs, isNm x) (hS : slashed ((p :: ps).map (·.data.toList)) = slashed ((q :: qs).map (·.data.toList))) : p :: ps = q :: qs := by
  simp only [List.map_cons, slashed] at hS
  have hS := (List.cons.inj hS).2
  have slash : ∀ (a : ByteArray) (b : List ByteArray), (∀ x ∈ a :: b, isNm x) → splitSl (a.data.toList ++ slashed (b.map (·.data.toList))) = (a :: b).map (·.data.toList) := by
    intro a b hab
    exact split_slashed _ _ (by
      intro x hx
      rcases List.mem_cons.1 hx with rfl | hx
      · exact nm_no_slash (hab a (by simp))
      · obtain ⟨q, hq, rfl⟩ := List.mem_map.1 hx
        exact nm_no_slash (hab q (List.mem_cons_of_mem _ hq)))
  have e := slash p ps hn
  rw [hS, slash q qs hm] at e
  have := congrArg (List.map fun l : List UInt8 => (⟨l.toArray⟩ : ByteArray)) e
  rw [map_self, map_self] at this
  exact this.symm
theorem slashed_root (p : ByteArray) (ps : List ByteArray) (hn : ∀ x ∈ p :: ps, isNm x) : slashed ((p :: ps).map (·.data.toList)) ≠ [47] := by
  intro hS
  simp only [List.map_cons, slashed] at hS
  have h1 := (hn p (by simp)).1
  have hl := congrArg List.length hS
  simp at hl
  rw [hl.1] at h1
  exact absurd h1 (by decide)
theorem slashed_append (a b : List (List UInt8)) : slashed (a ++ b) = slashed a ++ slashed b := by
  induction a with
  | nil => rfl
  | cons x a ih => simp [slashed, ih]
theorem path_long (p : ByteArray) (ps : List ByteArray) (hn : ∀ x ∈ p :: ps, isNm x) (hl : 20 < (p :: ps).length) (hs : (slashed ((p :: ps).map (·.data.toList))).length ≤ 1000000000000) : name_Path.f ⟨(slashed ((p :: ps).map (·.data.toList))).toArray⟩ = some ([], 1) := by
  obtain ⟨r, hr, (⟨v, rfl, hv⟩ | ⟨rfl, _⟩)⟩ := path_eq ⟨(slashed ((p :: ps).map (·.data.toList))).toArray⟩ (by show (slashed ((p :: ps).map (·.data.toList))).toArray.size ≤ _; rw [List.size_toArray]; exact hs)
  · exfalso
    generalize hS : (⟨(slashed ((p :: ps).map (·.data.toList))).toArray⟩ : ByteArray) = S at hv
    cases hv with
    | root =>
      have := congrArg (fun x : ByteArray => x.data.toList) hS
      exact slashed_root p ps hn this
    | go q qs hm hd =>
      have := congrArg (fun x : ByteArray => x.data.toList) hS
      have e := slashed_inj p ps q qs hn hm this
      rw [e] at hl
      omega
  · exact hr


end Go.Proofs.YtcdgbpojcdecbaaDoor.P
