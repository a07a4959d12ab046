-- By wip/tools/drive.py: the kit's print, with contracts of this session's own among the functions.
import Derived.Test.YtgjjcgemelafaaaPx0
namespace Go.Proofs.Ytgjjcgemelafaaa.P
open Go.RowKit Go.Proofs.YtgjjcgemelafaaaW.PrintWords Go.Proofs.YtgjjcgemelafaaaW.PrintLast Go.Proofs.YtgjjcgemelafaaaW.PrintMore
attribute [local go_sem] max2_int min2_int max_two min_two max_three min_three max_four min_four   -- for this text's walks alone
set_option linter.unusedVariables false
set_option linter.unusedSimpArgs false
def assartref02_Short.l0 : Nat → List (S79) → Int → Option (Bool)
  | 0, _, _ => none
  | k + 1, x0, x5 => if x5 < (x0.length : Int) then (if 0 ≤ x5 then (if (((rd_T79 x0 x5).f1).size : Int) > 100 then (some false) else (assartref02_Short.l0 k x0 (wrap64 (x5 + 1)))) else (none)) else (some true)
def assartref02_Short.f (k : Nat) (l0 : List (S79)) (a1 : Int) : Option (Bool) := if (l0.length : Int) > a1 then (some false) else (assartref02_Short.l0 k l0 0)
set_option maxHeartbeats 8000000 in
set_option maxRecDepth 100000 in
theorem assartref02_Short.calls (k : Nat) (A0 : Option Addr) (c0 : Nat) (l0 : List (S79)) (a1 : Int) (r : Bool) (w : World) (hr0 : Kd.C k79 w A0 l0.length l0) (hc0 : l0.length ≤ c0) (h : assartref02_Short.f k l0 a1 = some r) :
    Calls Try.prog 43 #[.slice A0 l0.length c0, .int .i64 a1] w fun e w' => e = .returned (.bool r) ∧ Drawn0 w w' := by
  have HR0 := Aside0.mk hr0
  have HC0 := Aside0.mk hc0
  clear hr0 hc0
  have H : (if (l0.length : Int) > a1 then (some false) else (assartref02_Short.l0 k l0 0)) = some r := h
  clear h
  by_cases c3 : (l0.length : Int) > a1
  · rw [if_pos c3] at H
    have c3b0 : decide (a1 < (l0.length : Int)) = true := decide_eq_true c3
    clear c3
    obtain rfl := Option.some.inj H
    go_enter Try.func43, Try.ntmps43
    go_wp2
    go_ret
    exact ⟨by first | rfl | (simp; done) | (simp [*]; done), by repeat (first | exact Drawn0.refl _ | apply Drawn0.step)⟩
  · rw [if_neg c3] at H
    have c3b0 : decide (a1 < (l0.length : Int)) = false := decide_eq_false c3
    clear c3
    have H' := Aside0.mk H
    clear H
    go_enter Try.func43, Try.ntmps43
    go_wp2
    go_loopg [5] k (fun kq v5 w' => ∃ (x5_1 : Int), v5 = .int .i64 x5_1 ∧ Aside0 (assartref02_Short.l0 kq l0 x5_1 = some r) ∧ Aside0 (kq ≤ k) ∧ Drawn0 w w')
    case atStart => exact ⟨(0), (by first | rfl | (simp; done) | (simp [*]; done)), H', ⟨Nat.le_refl _⟩, by repeat (first | exact Drawn0.refl _ | apply Drawn0.step)⟩
    case round =>
      clear H'
      try clear p2
      try clear c3
      try clear c3b0
      obtain ⟨x5_1, rfl, HA, HK1, ⟨m1, rfl⟩⟩ := hrel
      cases gk with
      | zero => exact absurd HA.out (by simp [assartref02_Short.l0])
      | succ k1 =>
        have H := HA.out
        clear HA
        simp only [assartref02_Short.l0] at H
        by_cases c4 : x5_1 < (l0.length : Int)
        · rw [if_pos c4] at H
          have c4b0 : decide (x5_1 < (l0.length : Int)) = true := decide_eq_true c4
          clear c4
          by_cases c5 : 0 ≤ x5_1
          · rw [if_pos c5] at H
            have c5b0 : decide (0 ≤ x5_1) = true := decide_eq_true c5
            clear c5
            by_cases c6 : (((rd_T79 l0 x5_1).f1).size : Int) > 100
            · rw [if_pos c6] at H
              have c6b0 : decide (100 < (((rd_T79 l0 x5_1).f1).size : Int)) = true := decide_eq_true c6
              have c6b1 : decide (100 < ((rd_T79 l0 x5_1).f1).size) = true := decide_eq_true (by omega)
              clear c6
              obtain rfl := Option.some.inj H
              have p185 : 0 ≤ (x5_1 : Int) := of_decide_eq_true (by first | (with_reducible assumption) | assumption)
              have q185 : x5_1 < (l0.length : Int) := of_decide_eq_true (by first | (with_reducible assumption) | assumption)
              obtain ⟨ad185, e185, hx185_0, hx185_1⟩ := at_T79 HR0.out x5_1 p185 q185
              cases e185
              replace p185 := eq_true p185
              replace q185 := eq_true q185
              go_wp2
              go_ret
              exact ⟨by first | rfl | (simp; done) | (simp [*]; done), by repeat (first | exact Drawn0.refl _ | apply Drawn0.step)⟩
            · rw [if_neg c6] at H
              have c6b0 : decide (100 < (((rd_T79 l0 x5_1).f1).size : Int)) = false := decide_eq_false c6
              have c6b1 : decide (100 < ((rd_T79 l0 x5_1).f1).size) = false := decide_eq_false (by omega)
              clear c6
              have H' := Aside0.mk H
              clear H
              have p185 : 0 ≤ (x5_1 : Int) := of_decide_eq_true (by first | (with_reducible assumption) | assumption)
              have q185 : x5_1 < (l0.length : Int) := of_decide_eq_true (by first | (with_reducible assumption) | assumption)
              obtain ⟨ad185, e185, hx185_0, hx185_1⟩ := at_T79 HR0.out x5_1 p185 q185
              cases e185
              replace p185 := eq_true p185
              replace q185 := eq_true q185
              go_wp2
              go_roundg k1
              case measure => have := HK1.out; omega
              case rel => exact ⟨(wrap64 (x5_1 + 1)), (by first | rfl | (simp; done) | (simp [*]; done)), H', ⟨by have := HK1.out; omega⟩, by repeat (first | exact Drawn0.refl _ | apply Drawn0.step)⟩
          · rw [if_neg c5] at H
            exact absurd H (by simp)
        · rw [if_neg c4] at H
          have c4b0 : decide (x5_1 < (l0.length : Int)) = false := decide_eq_false c4
          clear c4
          obtain rfl := Option.some.inj H
          go_wp2
          go_ret
          exact ⟨by first | rfl | (simp; done) | (simp [*]; done), by repeat (first | exact Drawn0.refl _ | apply Drawn0.step)⟩
mutual
def assartref02_Small.j0 : Nat → Int → Bool → List ByteArray → List (S79) → Option (Bool)
  | 0, _, _, _, _ => none
  | k + 1, x1, x17, x187000, x187001 => if x17 = true then (some false) else (assartref02_Small.l0 k x1 0 x187000 x187001)
def assartref02_Small.l0 : Nat → Int → Int → List ByteArray → List (S79) → Option (Bool)
  | 0, _, _, _, _ => none
  | k + 1, x1, x5, x187000, x187001 => if x5 < (x187000.length : Int) then (if 0 ≤ x5 then (if ((rdOf ByteArray.empty x187000 x5).size : Int) > 100 then (some false) else (assartref02_Small.l0 k x1 (wrap64 (x5 + 1)) x187000 x187001)) else (none)) else ((assartref02_Short.f k x187001 x1).bind fun t188 => (some t188))
end
def assartref02_Small.f (k : Nat) (l0_0 : List ByteArray) (l0_1 : List (S79)) (a1 : Int) : Option (Bool) := if (l0_0.length : Int) > a1 then (assartref02_Small.j0 k a1 true l0_0 l0_1) else (assartref02_Small.j0 k a1 (decide ((l0_1.length : Int) > a1)) l0_0 l0_1)
set_option maxHeartbeats 8000000 in
set_option maxRecDepth 100000 in
theorem assartref02_Small.calls (k : Nat) (A0_0 : Option Addr) (c0_0 : Nat) (l0_0 : List ByteArray) (A0_1 : Option Addr) (c0_1 : Nat) (l0_1 : List (S79)) (a1 : Int) (r : Bool) (w : World) (hr0_0 : Kd.C Kd.string w A0_0 l0_0.length l0_0) (hc0_0 : l0_0.length ≤ c0_0) (hr0_1 : Kd.C k79 w A0_1 l0_1.length l0_1) (hc0_1 : l0_1.length ≤ c0_1) (h : assartref02_Small.f k l0_0 l0_1 a1 = some r) :
    Calls Try.prog 34 #[.agg #[.slice A0_0 l0_0.length c0_0, .slice A0_1 l0_1.length c0_1], .int .i64 a1] w fun e w' => e = .returned (.bool r) ∧ Below w.heap.size w w' := by
  have hu63 := Try.underlying63
  have HR0_0 := Aside0.mk hr0_0
  have HC0_0 := Aside0.mk hc0_0
  clear hr0_0 hc0_0
  have HR0_1 := Aside0.mk hr0_1
  have HC0_1 := Aside0.mk hc0_1
  clear hr0_1 hc0_1
  have HB := Aside0.mk (Below.refl w.heap.size w)
  have H : (if (l0_0.length : Int) > a1 then (assartref02_Small.j0 k a1 true l0_0 l0_1) else (assartref02_Small.j0 k a1 (decide ((l0_1.length : Int) > a1)) l0_0 l0_1)) = some r := h
  clear h
  have HC3 := Aside0.mk H
  clear H
  go_enter Try.func34, Try.ntmps34
  go_upto_region 1 with (first | ((with_reducible refine gate_dst (N := 2) rfl ?_); (try (refine gate_guard (by rfl) ?_; dsimp only)); refine box_event ?hg (N := 2) ?hd (cs := #[.slice A0_0 l0_0.length c0_0, .slice A0_1 l0_1.length c0_1]) (t := 63) ?hr ?_; (case hd => rfl); (case hg => rfl); (case hr => first | (go_simp; done) | (go_simp; rfl)); intro gb186 hg w4 hbox hb; have n0_ := Aside0.mk (below_step (by repeat (first | (with_reducible first | exact HB.out | apply below_alloc | apply pw_below_drewN | apply below_drew1) | exact HB.out)) hb); have n1_ := Aside0.mk (hbox); have n2_ := Aside0.mk ((by rw [hg]; exact (below_size (by repeat (first | (with_reducible first | exact HB.out | apply below_alloc | apply pw_below_drewN | apply below_drew1) | exact HB.out))) : w.heap.size ≤ gb186)); have n3_ := Aside0.mk ((by rw [hg]; exact (below_size (by repeat (first | (with_reducible first | exact HB.out | apply below_alloc | apply pw_below_drewN | apply below_drew1) | exact HB.out))) : w.heap.size ≤ gb186)); clear HB; have HB := n0_; have BK186 := n1_; have GW186 := n2_; have GE186 := n3_; clear n0_ n1_ n2_ n3_; clear hb hbox hg))
  (try simp only [Act.put, List.setIfInBounds_toArray, List.set_cons_zero, List.set_cons_succ])
  go_cut [17] (fun v17 wc => ∃ (kq : Nat) (x17_2 : Bool), v17 = .bool x17_2 ∧ Aside0 (assartref02_Small.j0 kq a1 x17_2 l0_0 l0_1 = some r) ∧ Aside0 (kq ≤ k) ∧ Aside0 (wc.heap[gb186]? = some (.cells #[(.slice A0_0 l0_0.length c0_0), (.slice A0_1 l0_1.length c0_1)] 63 (0, 0))) ∧ Aside0 (Below w.heap.size w wc))
  case first =>
    have H := HC3.out
    clear HC3
    by_cases c5 : (l0_0.length : Int) > a1
    · rw [if_pos c5] at H
      have c5b0 : decide (a1 < (l0_0.length : Int)) = true := decide_eq_true c5
      clear c5
      (first | rw [c5b0] | (simp only [i64_w, i32_w]; rw [c5b0]) | skip)
      have H' := Aside0.mk H
      clear H
      have hcz6_0 : w4.cell? ⟨gb186, 0, none⟩ = some (.slice A0_0 l0_0.length c0_0) := (blk_cell BK186.out 0).trans rfl
      have hcz6_1 : w4.cell? ⟨gb186, 1, none⟩ = some (.slice A0_1 l0_1.length c0_1) := (blk_cell BK186.out 1).trans rfl
      have hfz6_0 := blk_frozen BK186.out 0
      have hfz6_1 := blk_frozen BK186.out 1
      go_wp2
      go_meet
      case rel => exact ⟨_, (true), (by first | rfl | (simp; done) | (simp [*]; done)), H', ⟨by first | omega | exact Nat.le_refl _⟩, ⟨by (with_reducible repeat (first | refine blk_drewN ?_ _ | refine blk_drew ?_ | refine blk_alloc ?_ _)); exact BK186.out⟩, ⟨by repeat (first | (with_reducible first | exact HB.out | apply below_alloc | apply pw_below_drewN | apply below_drew1 | refine below_set ?_ GE186.out) | exact HB.out)⟩⟩
    · rw [if_neg c5] at H
      have c5b0 : decide (a1 < (l0_0.length : Int)) = false := decide_eq_false c5
      clear c5
      (first | rw [c5b0] | (simp only [i64_w, i32_w]; rw [c5b0]) | skip)
      have H' := Aside0.mk H
      clear H
      have hcz7_0 : w4.cell? ⟨gb186, 0, none⟩ = some (.slice A0_0 l0_0.length c0_0) := (blk_cell BK186.out 0).trans rfl
      have hcz7_1 : w4.cell? ⟨gb186, 1, none⟩ = some (.slice A0_1 l0_1.length c0_1) := (blk_cell BK186.out 1).trans rfl
      have hfz7_0 := blk_frozen BK186.out 0
      have hfz7_1 := blk_frozen BK186.out 1
      go_wp2
      go_meet
      case rel => exact ⟨_, (decide ((l0_1.length : Int) > a1)), (by first | rfl | (simp; done) | (simp [*]; done)), H', ⟨by first | omega | exact Nat.le_refl _⟩, ⟨by (with_reducible repeat (first | refine blk_drewN ?_ _ | refine blk_drew ?_ | refine blk_alloc ?_ _)); exact BK186.out⟩, ⟨by repeat (first | (with_reducible first | exact HB.out | apply below_alloc | apply pw_below_drewN | apply below_drew1 | refine below_set ?_ GE186.out) | exact HB.out)⟩⟩
  case rest =>
    clear HC3
    try clear p2
    try clear c3
    try clear c5
    try clear c5b0
    try clear hcz6_0
    try clear hcz6_1
    try clear hcz7_0
    try clear hcz7_1
    try clear hfz6_0
    try clear hfz6_1
    try clear hfz7_0
    try clear hfz7_1
    obtain ⟨kq, x17_2, rfl, HA, HJ2, BK186, HB⟩ := hcut
    cases kq with
    | zero => exact absurd HA.out (by simp [assartref02_Small.j0])
    | succ kj2 =>
      have H := HA.out
      clear HA
      simp only [assartref02_Small.j0] at H
      by_cases c8 : x17_2 = true
      · subst c8
        have H1 : (some false) = some r := by rw [if_pos rfl] at H; exact H
        clear H
        have H := H1
        clear H1
        obtain rfl := Option.some.inj H
        go_wp2
        go_ret
        exact ⟨by first | rfl | (simp [errW_none, errW_some] <;> rfl) | (simp [*, errW_none, errW_some] <;> rfl), by repeat (first | (with_reducible first | exact HB.out | apply below_alloc | apply pw_below_drewN | apply below_drew1 | refine below_set ?_ GE186.out) | exact HB.out)⟩
      · replace c8 := Bool.eq_false_iff.mpr c8
        subst c8
        have H1 : (assartref02_Small.l0 kj2 a1 0 l0_0 l0_1) = some r := by rw [if_neg (show ¬ (false = true) by decide)] at H; exact H
        clear H
        have H := H1
        clear H1
        have H' := Aside0.mk H
        clear H
        go_wp2
        go_loopg [5] kj2 (fun kq v5 w' => ∃ (x5_2 : Int), v5 = .int .i64 x5_2 ∧ Aside0 (assartref02_Small.l0 kq a1 x5_2 l0_0 l0_1 = some r) ∧ Aside0 (kq ≤ kj2) ∧ Aside0 (w'.heap[gb186]? = some (.cells #[(.slice A0_0 l0_0.length c0_0), (.slice A0_1 l0_1.length c0_1)] 63 (0, 0))) ∧ Aside0 (Below w.heap.size w w'))
        case atStart => exact ⟨(0), (by first | rfl | (simp; done) | (simp [*]; done)), H', ⟨Nat.le_refl _⟩, ⟨by (with_reducible repeat (first | refine blk_drewN ?_ _ | refine blk_drew ?_ | refine blk_alloc ?_ _)); exact BK186.out⟩, ⟨by repeat (first | (with_reducible first | exact HB.out | apply below_alloc | apply pw_below_drewN | apply below_drew1 | refine below_set ?_ GE186.out) | exact HB.out)⟩⟩
        case round =>
          clear H'
          try clear p2
          try clear c3
          try clear c5
          try clear c5b0
          try clear c8
          try clear hcz6_0
          try clear hcz6_1
          try clear hcz7_0
          try clear hcz7_1
          try clear hfz6_0
          try clear hfz6_1
          try clear hfz7_0
          try clear hfz7_1
          try clear p2
          obtain ⟨x5_2, rfl, HA, HK2, BK186, HB⟩ := hrel
          cases gk with
          | zero => exact absurd HA.out (by simp [assartref02_Small.l0])
          | succ k2 =>
            have H := HA.out
            clear HA
            simp only [assartref02_Small.l0] at H
            by_cases c9 : x5_2 < (l0_0.length : Int)
            · rw [if_pos c9] at H
              have c9b0 : decide (x5_2 < (l0_0.length : Int)) = true := decide_eq_true c9
              clear c9
              by_cases c10 : 0 ≤ x5_2
              · rw [if_pos c10] at H
                have c10b0 : decide (0 ≤ x5_2) = true := decide_eq_true c10
                clear c10
                by_cases c11 : ((rdOf ByteArray.empty l0_0 x5_2).size : Int) > 100
                · rw [if_pos c11] at H
                  have c11b0 : decide (100 < ((rdOf ByteArray.empty l0_0 x5_2).size : Int)) = true := decide_eq_true c11
                  have c11b1 : decide (100 < (rdOf ByteArray.empty l0_0 x5_2).size) = true := decide_eq_true (by omega)
                  clear c11
                  obtain rfl := Option.some.inj H
                  have hcz12_0 : wr.cell? ⟨gb186, 0, none⟩ = some (.slice A0_0 l0_0.length c0_0) := (blk_cell BK186.out 0).trans rfl
                  have hcz12_1 : wr.cell? ⟨gb186, 1, none⟩ = some (.slice A0_1 l0_1.length c0_1) := (blk_cell BK186.out 1).trans rfl
                  have hfz12_0 := blk_frozen BK186.out 0
                  have hfz12_1 := blk_frozen BK186.out 1
                  have p187 : 0 ≤ (x5_2 : Int) := of_decide_eq_true (by first | (with_reducible assumption) | assumption)
                  have q187 : x5_2 < (l0_0.length : Int) := of_decide_eq_true (by first | (with_reducible assumption) | assumption)
                  obtain ⟨ad187, e187, hx187_0⟩ := Kd.at_string HR0_0.out x5_2 p187 q187
                  cases e187
                  replace hx187_0 := (HB.out.cell (World.block_lt_of_cell? w _ hx187_0)).trans hx187_0
                  replace p187 := eq_true p187
                  replace q187 := eq_true q187
                  go_wp2
                  go_ret
                  exact ⟨by first | rfl | (simp [errW_none, errW_some] <;> rfl) | (simp [*, errW_none, errW_some] <;> rfl), by repeat (first | (with_reducible first | exact HB.out | apply below_alloc | apply pw_below_drewN | apply below_drew1 | refine below_set ?_ GE186.out) | exact HB.out)⟩
                · rw [if_neg c11] at H
                  have c11b0 : decide (100 < ((rdOf ByteArray.empty l0_0 x5_2).size : Int)) = false := decide_eq_false c11
                  have c11b1 : decide (100 < (rdOf ByteArray.empty l0_0 x5_2).size) = false := decide_eq_false (by omega)
                  clear c11
                  have H' := Aside0.mk H
                  clear H
                  have hcz13_0 : wr.cell? ⟨gb186, 0, none⟩ = some (.slice A0_0 l0_0.length c0_0) := (blk_cell BK186.out 0).trans rfl
                  have hcz13_1 : wr.cell? ⟨gb186, 1, none⟩ = some (.slice A0_1 l0_1.length c0_1) := (blk_cell BK186.out 1).trans rfl
                  have hfz13_0 := blk_frozen BK186.out 0
                  have hfz13_1 := blk_frozen BK186.out 1
                  have p187 : 0 ≤ (x5_2 : Int) := of_decide_eq_true (by first | (with_reducible assumption) | assumption)
                  have q187 : x5_2 < (l0_0.length : Int) := of_decide_eq_true (by first | (with_reducible assumption) | assumption)
                  obtain ⟨ad187, e187, hx187_0⟩ := Kd.at_string HR0_0.out x5_2 p187 q187
                  cases e187
                  replace hx187_0 := (HB.out.cell (World.block_lt_of_cell? w _ hx187_0)).trans hx187_0
                  replace p187 := eq_true p187
                  replace q187 := eq_true q187
                  go_wp2
                  go_roundg k2
                  case measure => have := HJ2.out; have := HK2.out; omega
                  case rel => exact ⟨(wrap64 (x5_2 + 1)), (by first | rfl | (simp; done) | (simp [*]; done)), H', ⟨by have := HJ2.out; have := HK2.out; omega⟩, ⟨by (with_reducible repeat (first | refine blk_drewN ?_ _ | refine blk_drew ?_ | refine blk_alloc ?_ _)); exact BK186.out⟩, ⟨by repeat (first | (with_reducible first | exact HB.out | apply below_alloc | apply pw_below_drewN | apply below_drew1 | refine below_set ?_ GE186.out) | exact HB.out)⟩⟩
              · rw [if_neg c10] at H
                exact absurd H (by simp)
            · rw [if_neg c9] at H
              have c9b0 : decide (x5_2 < (l0_0.length : Int)) = false := decide_eq_false c9
              clear c9
              replace H := Option.bind_eq_some_iff.mp H
              obtain ⟨t188, A140, H⟩ := H
              replace H : (some t188) = some r := H
              have A14 := Aside0.mk A140
              clear A140
              obtain rfl := Option.some.inj H
              have hcz15_0 : wr.cell? ⟨gb186, 0, none⟩ = some (.slice A0_0 l0_0.length c0_0) := (blk_cell BK186.out 0).trans rfl
              have hcz15_1 : wr.cell? ⟨gb186, 1, none⟩ = some (.slice A0_1 l0_1.length c0_1) := (blk_cell BK186.out 1).trans rfl
              have hfz15_0 := blk_frozen BK186.out 0
              have hfz15_1 := blk_frozen BK186.out 1
              go_wp2_with (first | ((with_reducible refine gate_callee (f := 43) rfl ?_); refine goesL_ (some 35) rfl rfl Try.func43 (by kernel_rfl) rfl #[.slice A0_1 l0_1.length c0_1, .int .i64 a1] rfl (by (try simp only [List.map_toArray, List.map_cons, List.map_nil]); first | done | rfl | (simp only [List.length_drop, List.length_take]; rfl)) ?_; (with_reducible refine (assartref02_Short.calls k2 _ _ l0_1 a1 t188 _ ?side1 ?side2 A14.out).mono ?_); (case side1 => repeat (first | exact (Kd.C_below HR0_1.out HB.out) | (with_reducible refine Kd.C_alloc ?_ _) | (with_reducible refine Kd.C_drewN ?_ _) | (with_reducible refine Kd.C_drew ?_))); (case side2 => exact HC0_1.out); rintro e w' ⟨rfl, ⟨nd, rfl⟩⟩; refine ⟨_, rfl, ?_⟩))
              go_ret
              exact ⟨by first | rfl | (simp [errW_none, errW_some] <;> rfl) | (simp [*, errW_none, errW_some] <;> rfl), by repeat (first | (with_reducible first | exact HB.out | apply below_alloc | apply pw_below_drewN | apply below_drew1 | refine below_set ?_ GE186.out) | exact HB.out)⟩
def assartref02_may.f (l0_0 : List ByteArray) (l0_1 : List (S79)) (a1 : Int) (a2 : ByteArray) : Option (Bool) := if a1 ≥ 0 then (if a1 < (l0_0.length : Int) then (some ((a2.size : Int) == 40)) else (some false)) else (some false)
set_option maxHeartbeats 8000000 in
set_option maxRecDepth 100000 in
theorem assartref02_may.calls (A0_0 : Option Addr) (c0_0 : Nat) (l0_0 : List ByteArray) (A0_1 : Option Addr) (c0_1 : Nat) (l0_1 : List (S79)) (a1 : Int) (a2 : ByteArray) (r : Bool) (w : World) (hr0_0 : Kd.C Kd.string w A0_0 l0_0.length l0_0) (hc0_0 : l0_0.length ≤ c0_0) (hr0_1 : Kd.C k79 w A0_1 l0_1.length l0_1) (hc0_1 : l0_1.length ≤ c0_1) (h : assartref02_may.f l0_0 l0_1 a1 a2 = some r) :
    Calls Try.prog 83 #[.agg #[.slice A0_0 l0_0.length c0_0, .slice A0_1 l0_1.length c0_1], .int .i64 a1, .string a2] w fun e w' => e = .returned (.bool r) ∧ Below w.heap.size w w' := by
  have hu63 := Try.underlying63
  have HR0_0 := Aside0.mk hr0_0
  have HC0_0 := Aside0.mk hc0_0
  clear hr0_0 hc0_0
  have HR0_1 := Aside0.mk hr0_1
  have HC0_1 := Aside0.mk hc0_1
  clear hr0_1 hc0_1
  have HB := Aside0.mk (Below.refl w.heap.size w)
  have H : (if a1 ≥ 0 then (if a1 < (l0_0.length : Int) then (some ((a2.size : Int) == 40)) else (some false)) else (some false)) = some r := h
  clear h
  by_cases c4 : a1 ≥ 0
  · rw [if_pos c4] at H
    have c4b0 : decide (0 ≤ a1) = true := decide_eq_true c4
    clear c4
    by_cases c5 : a1 < (l0_0.length : Int)
    · rw [if_pos c5] at H
      have c5b0 : decide (a1 < (l0_0.length : Int)) = true := decide_eq_true c5
      clear c5
      obtain rfl := Option.some.inj H
      go_enter Try.func83, Try.ntmps83
      go_wp2_with (first | ((with_reducible refine gate_dst (N := 3) rfl ?_); (try (refine gate_guard (by rfl) ?_; dsimp only)); refine box_event ?hg (N := 3) ?hd (cs := #[.slice A0_0 l0_0.length c0_0, .slice A0_1 l0_1.length c0_1]) (t := 63) ?hr ?_; (case hd => rfl); (case hg => rfl); (case hr => first | (go_simp; done) | (go_simp; rfl)); intro gb197 hg w6 hbox hb; have n0_ := Aside0.mk (below_step (by repeat (first | (with_reducible first | exact HB.out | apply below_alloc | apply pw_below_drewN | apply below_drew1) | exact HB.out)) hb); have n1_ := Aside0.mk (hbox); have n2_ := Aside0.mk ((by rw [hg]; exact (below_size (by repeat (first | (with_reducible first | exact HB.out | apply below_alloc | apply pw_below_drewN | apply below_drew1) | exact HB.out))) : w.heap.size ≤ gb197)); have n3_ := Aside0.mk ((by rw [hg]; exact (below_size (by repeat (first | (with_reducible first | exact HB.out | apply below_alloc | apply pw_below_drewN | apply below_drew1) | exact HB.out))) : w.heap.size ≤ gb197)); clear HB; have HB := n0_; have BK197 := n1_; have GW197 := n2_; have GE197 := n3_; clear n0_ n1_ n2_ n3_; clear hb hbox hg; have hcz7_0 : w6.cell? ⟨gb197, 0, none⟩ = some (.slice A0_0 l0_0.length c0_0) := (blk_cell BK197.out 0).trans rfl; have hcz7_1 : w6.cell? ⟨gb197, 1, none⟩ = some (.slice A0_1 l0_1.length c0_1) := (blk_cell BK197.out 1).trans rfl; have hfz7_0 := blk_frozen BK197.out 0; have hfz7_1 := blk_frozen BK197.out 1))
      go_ret
      exact ⟨by first | rfl | (simp [errW_none, errW_some] <;> rfl) | (simp [*, errW_none, errW_some] <;> rfl), by repeat (first | (with_reducible first | exact HB.out | apply below_alloc | apply pw_below_drewN | apply below_drew1 | refine below_set ?_ GE197.out) | exact HB.out)⟩
    · rw [if_neg c5] at H
      have c5b0 : decide (a1 < (l0_0.length : Int)) = false := decide_eq_false c5
      clear c5
      obtain rfl := Option.some.inj H
      go_enter Try.func83, Try.ntmps83
      go_wp2_with (first | ((with_reducible refine gate_dst (N := 3) rfl ?_); (try (refine gate_guard (by rfl) ?_; dsimp only)); refine box_event ?hg (N := 3) ?hd (cs := #[.slice A0_0 l0_0.length c0_0, .slice A0_1 l0_1.length c0_1]) (t := 63) ?hr ?_; (case hd => rfl); (case hg => rfl); (case hr => first | (go_simp; done) | (go_simp; rfl)); intro gb197 hg w8 hbox hb; have n0_ := Aside0.mk (below_step (by repeat (first | (with_reducible first | exact HB.out | apply below_alloc | apply pw_below_drewN | apply below_drew1) | exact HB.out)) hb); have n1_ := Aside0.mk (hbox); have n2_ := Aside0.mk ((by rw [hg]; exact (below_size (by repeat (first | (with_reducible first | exact HB.out | apply below_alloc | apply pw_below_drewN | apply below_drew1) | exact HB.out))) : w.heap.size ≤ gb197)); have n3_ := Aside0.mk ((by rw [hg]; exact (below_size (by repeat (first | (with_reducible first | exact HB.out | apply below_alloc | apply pw_below_drewN | apply below_drew1) | exact HB.out))) : w.heap.size ≤ gb197)); clear HB; have HB := n0_; have BK197 := n1_; have GW197 := n2_; have GE197 := n3_; clear n0_ n1_ n2_ n3_; clear hb hbox hg; have hcz9_0 : w8.cell? ⟨gb197, 0, none⟩ = some (.slice A0_0 l0_0.length c0_0) := (blk_cell BK197.out 0).trans rfl; have hcz9_1 : w8.cell? ⟨gb197, 1, none⟩ = some (.slice A0_1 l0_1.length c0_1) := (blk_cell BK197.out 1).trans rfl; have hfz9_0 := blk_frozen BK197.out 0; have hfz9_1 := blk_frozen BK197.out 1))
      go_ret
      exact ⟨by first | rfl | (simp [errW_none, errW_some] <;> rfl) | (simp [*, errW_none, errW_some] <;> rfl), by repeat (first | (with_reducible first | exact HB.out | apply below_alloc | apply pw_below_drewN | apply below_drew1 | refine below_set ?_ GE197.out) | exact HB.out)⟩
  · rw [if_neg c4] at H
    have c4b0 : decide (0 ≤ a1) = false := decide_eq_false c4
    clear c4
    obtain rfl := Option.some.inj H
    go_enter Try.func83, Try.ntmps83
    go_wp2_with (first | ((with_reducible refine gate_dst (N := 3) rfl ?_); (try (refine gate_guard (by rfl) ?_; dsimp only)); refine box_event ?hg (N := 3) ?hd (cs := #[.slice A0_0 l0_0.length c0_0, .slice A0_1 l0_1.length c0_1]) (t := 63) ?hr ?_; (case hd => rfl); (case hg => rfl); (case hr => first | (go_simp; done) | (go_simp; rfl)); intro gb197 hg w10 hbox hb; have n0_ := Aside0.mk (below_step (by repeat (first | (with_reducible first | exact HB.out | apply below_alloc | apply pw_below_drewN | apply below_drew1) | exact HB.out)) hb); have n1_ := Aside0.mk (hbox); have n2_ := Aside0.mk ((by rw [hg]; exact (below_size (by repeat (first | (with_reducible first | exact HB.out | apply below_alloc | apply pw_below_drewN | apply below_drew1) | exact HB.out))) : w.heap.size ≤ gb197)); have n3_ := Aside0.mk ((by rw [hg]; exact (below_size (by repeat (first | (with_reducible first | exact HB.out | apply below_alloc | apply pw_below_drewN | apply below_drew1) | exact HB.out))) : w.heap.size ≤ gb197)); clear HB; have HB := n0_; have BK197 := n1_; have GW197 := n2_; have GE197 := n3_; clear n0_ n1_ n2_ n3_; clear hb hbox hg))
    go_ret
    exact ⟨by first | rfl | (simp [errW_none, errW_some] <;> rfl) | (simp [*, errW_none, errW_some] <;> rfl), by repeat (first | (with_reducible first | exact HB.out | apply below_alloc | apply pw_below_drewN | apply below_drew1 | refine below_set ?_ GE197.out) | exact HB.out)⟩
end Go.Proofs.Ytgjjcgemelafaaa.P
