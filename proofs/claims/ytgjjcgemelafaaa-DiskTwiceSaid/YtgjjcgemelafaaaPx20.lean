-- By wip/tools/drive.py: the kit's print, with contracts of this session's own among the functions.
import Derived.Test.YtgjjcgemelafaaaPx0
import Derived.Test.YtgjjcgemelafaaaPx4
import Derived.Test.YtgjjcgemelafaaaPx7
import Derived.Test.YtgjjcgemelafaaaPx8
import Derived.Test.YtgjjcgemelafaaaPx10
import Derived.Test.YtgjjcgemelafaaaPx11
import Derived.Test.YtgjjcgemelafaaaPx12
import Derived.Test.YtgjjcgemelafaaaPx14
import Derived.Test.YtgjjcgemelafaaaPx15
namespace Go.Proofs.Ytgjjcgemelafaaa.P
open Go.RowKit Go.Proofs.YtgjjcgemelafaaaW.PrintWords Go.Proofs.YtgjjcgemelafaaaW.PrintLast Go.Proofs.YtgjjcgemelafaaaW.PrintMore
attribute [local go_sem] max2_int min2_int max_two min_two max_three min_three max_four min_four   -- for this text's walks alone
set_option linter.unusedVariables false
set_option linter.unusedSimpArgs false
def assartlaw02_shown.f (k : Nat)  : Option (Bool) := (disk_New.f k 2).bind fun bt138 => ((strings_Repeat.f (⟨#[48, 49, 50, 51, 52, 53, 54, 55, 56, 57, 48, 49, 50, 51, 52, 53, 54, 55, 56, 57, 48, 49, 50, 51, 52, 53, 54, 55, 56, 57, 48, 49, 50, 51, 52, 53, 54, 55, 56, 57]⟩ : ByteArray) 1).bind fun t146 => ((disk_Put.f bt138.1 bt138.2.1 1 t146).bind fun bt147 => ((disk_Read.f bt147.1 bt147.2.1 1).bind fun bt155 => ((disk_Crash.f bt147.1 bt147.2.1 ([] : List Bool)).bind fun bt157 => ((disk_Do.f k bt138.1 bt138.2.1 (([(⟨1, t146⟩ : S79), (⟨(-1), (⟨#[]⟩ : ByteArray)⟩ : S79)] : List (S79))) (-1)).bind fun bt167 => (if bt138.2.2 = 0 then (if bt147.2.2 = 0 then (if bt155.2 = 0 then (if bt155.1.toList = t146.toList then ((disk_Same.f k bt157.1 bt157.2 bt138.1 bt138.2.1).bind fun t175 => (if t175 = true then (if bt167.2.2 = 2 then ((disk_Flush.f bt147.1 bt147.2.1).bind fun bt176 => ((disk_Same.f k bt167.1 bt167.2.1 bt176.1 bt176.2).bind fun t182 => (if t182 = true then ((disk_Right.f bt147.1 bt147.2.1).bind fun t183 => (if t183 = true then ((disk_Same.f k bt147.1 bt147.2.1 bt138.1 bt138.2.1).bind fun t184 => (some (!t184))) else (none))) else (none)))) else (none)) else (none))) else (none)) else (none)) else (none)) else (none)))))))
def assartlaw02_shown.T7 : Bool × List (List Nat × List Nat) := (true, [([], []), ([0], [0]), ([1], [1]), ([2], [2]), ([3, 2], [2, 3]), ([2, 4], [2, 4]), ([5, 2], [5]), ([6], [6]), ([7, 6], [6, 7]), ([6, 8], [6, 8]), ([9, 6], [9]), ([10], [10]), ([10], [10]), ([11, 12, 10], [10, 11, 12]), ([10, 13], [10, 13]), ([14, 10], [14]), ([15], [15]), ([15], [15]), ([16, 17, 15, 15], [15, 16, 17]), ([15, 18], [15, 18]), ([19, 18], [19]), ([20], [20]), ([21, 20], [20, 21]), ([20, 22], [20, 22]), ([23, 20], [23]), ([24], [24]), ([24], [24]), ([26, 24, 24], [24, 26]), ([25, 27, 27, 24], [24, 25, 27]), ([24, 28], [24, 28]), ([29, 28], [29]), ([30], [30]), ([31, 30, 30], [30, 31]), ([30, 32], [30, 32]), ([33, 32], [33]), ([34], [34]), ([34], [34]), ([35, 36, 34, 34], [34, 35, 36]), ([37, 34], [34, 37]), ([34, 38], [34, 38]), ([39, 37, 0, 1, 2, 3, 4, 5, 6, 7, 8, 9, 10, 11, 12, 13, 14, 15, 16, 17, 18, 19, 20, 21, 22, 23, 24, 25, 26, 27, 28, 29, 30, 31, 32, 33, 34, 35, 36, 37, 38, 39], [39])])
def assartlaw02_shown.B7 : List Nat := [0, 1, 3, 7, 15, 31, 63, 127, 255, 511, 1023, 2047, 2047, 8191, 16383, 32767, 65535, 65535, 262143, 524287, 1048575, 2097151, 4194303, 8388607, 16777215, 33554431, 33554431, 100663295, 268435455, 536870911, 1073741823, 2147483647, 4294967295, 8589934591, 17179869183, 34359738367, 34359738367, 137438953471, 274877906943, 549755813887, 1099511627775]
theorem assartlaw02_shown.tab7 : rtab .any (opsOf Try.f33 7) = assartlaw02_shown.T7 := by kernel_rfl
theorem assartlaw02_shown.bits7 : waitsOk assartlaw02_shown.T7.2 assartlaw02_shown.B7 = true := by kernel_rfl
set_option maxHeartbeats 8000000 in
set_option maxRecDepth 100000 in
theorem assartlaw02_shown.calls (k : Nat)  (r : Bool) (w : World) (h : assartlaw02_shown.f k  = some r) :
    Calls Try.prog 33 #[] w fun e w' => e = .returned (.bool r) ∧ Below w.heap.size w w' := by
  have hu63 := Try.underlying63
  have hu79 := Try.underlying79
  have HB := Aside0.mk (Below.refl w.heap.size w)
  have H : ((disk_New.f k 2).bind fun bt138 => ((strings_Repeat.f (⟨#[48, 49, 50, 51, 52, 53, 54, 55, 56, 57, 48, 49, 50, 51, 52, 53, 54, 55, 56, 57, 48, 49, 50, 51, 52, 53, 54, 55, 56, 57, 48, 49, 50, 51, 52, 53, 54, 55, 56, 57]⟩ : ByteArray) 1).bind fun t146 => ((disk_Put.f bt138.1 bt138.2.1 1 t146).bind fun bt147 => ((disk_Read.f bt147.1 bt147.2.1 1).bind fun bt155 => ((disk_Crash.f bt147.1 bt147.2.1 ([] : List Bool)).bind fun bt157 => ((disk_Do.f k bt138.1 bt138.2.1 (([(⟨1, t146⟩ : S79), (⟨(-1), (⟨#[]⟩ : ByteArray)⟩ : S79)] : List (S79))) (-1)).bind fun bt167 => (if bt138.2.2 = 0 then (if bt147.2.2 = 0 then (if bt155.2 = 0 then (if bt155.1.toList = t146.toList then ((disk_Same.f k bt157.1 bt157.2 bt138.1 bt138.2.1).bind fun t175 => (if t175 = true then (if bt167.2.2 = 2 then ((disk_Flush.f bt147.1 bt147.2.1).bind fun bt176 => ((disk_Same.f k bt167.1 bt167.2.1 bt176.1 bt176.2).bind fun t182 => (if t182 = true then ((disk_Right.f bt147.1 bt147.2.1).bind fun t183 => (if t183 = true then ((disk_Same.f k bt147.1 bt147.2.1 bt138.1 bt138.2.1).bind fun t184 => (some (!t184))) else (none))) else (none)))) else (none)) else (none))) else (none)) else (none)) else (none)) else (none)))))))) = some r := h
  clear h
  replace H := Option.bind_eq_some_iff.mp H
  obtain ⟨⟨t138, t141, t144⟩, A10, H⟩ := H
  replace H : ((strings_Repeat.f (⟨#[48, 49, 50, 51, 52, 53, 54, 55, 56, 57, 48, 49, 50, 51, 52, 53, 54, 55, 56, 57, 48, 49, 50, 51, 52, 53, 54, 55, 56, 57, 48, 49, 50, 51, 52, 53, 54, 55, 56, 57]⟩ : ByteArray) 1).bind fun t146 => ((disk_Put.f t138 t141 1 t146).bind fun bt147 => ((disk_Read.f bt147.1 bt147.2.1 1).bind fun bt155 => ((disk_Crash.f bt147.1 bt147.2.1 ([] : List Bool)).bind fun bt157 => ((disk_Do.f k t138 t141 (([(⟨1, t146⟩ : S79), (⟨(-1), (⟨#[]⟩ : ByteArray)⟩ : S79)] : List (S79))) (-1)).bind fun bt167 => (if t144 = 0 then (if bt147.2.2 = 0 then (if bt155.2 = 0 then (if bt155.1.toList = t146.toList then ((disk_Same.f k bt157.1 bt157.2 t138 t141).bind fun t175 => (if t175 = true then (if bt167.2.2 = 2 then ((disk_Flush.f bt147.1 bt147.2.1).bind fun bt176 => ((disk_Same.f k bt167.1 bt167.2.1 bt176.1 bt176.2).bind fun t182 => (if t182 = true then ((disk_Right.f bt147.1 bt147.2.1).bind fun t183 => (if t183 = true then ((disk_Same.f k bt147.1 bt147.2.1 t138 t141).bind fun t184 => (some (!t184))) else (none))) else (none)))) else (none)) else (none))) else (none)) else (none)) else (none)) else (none))))))) = some r := H
  have A1 := Aside0.mk A10
  clear A10
  replace H := Option.bind_eq_some_iff.mp H
  obtain ⟨t146, A20, H⟩ := H
  replace H : ((disk_Put.f t138 t141 1 t146).bind fun bt147 => ((disk_Read.f bt147.1 bt147.2.1 1).bind fun bt155 => ((disk_Crash.f bt147.1 bt147.2.1 ([] : List Bool)).bind fun bt157 => ((disk_Do.f k t138 t141 (([(⟨1, t146⟩ : S79), (⟨(-1), (⟨#[]⟩ : ByteArray)⟩ : S79)] : List (S79))) (-1)).bind fun bt167 => (if t144 = 0 then (if bt147.2.2 = 0 then (if bt155.2 = 0 then (if bt155.1.toList = t146.toList then ((disk_Same.f k bt157.1 bt157.2 t138 t141).bind fun t175 => (if t175 = true then (if bt167.2.2 = 2 then ((disk_Flush.f bt147.1 bt147.2.1).bind fun bt176 => ((disk_Same.f k bt167.1 bt167.2.1 bt176.1 bt176.2).bind fun t182 => (if t182 = true then ((disk_Right.f bt147.1 bt147.2.1).bind fun t183 => (if t183 = true then ((disk_Same.f k bt147.1 bt147.2.1 t138 t141).bind fun t184 => (some (!t184))) else (none))) else (none)))) else (none)) else (none))) else (none)) else (none)) else (none)) else (none)))))) = some r := H
  have A2 := Aside0.mk A20
  clear A20
  replace H := Option.bind_eq_some_iff.mp H
  obtain ⟨⟨t147, t150, t153⟩, A30, H⟩ := H
  replace H : ((disk_Read.f t147 t150 1).bind fun bt155 => ((disk_Crash.f t147 t150 ([] : List Bool)).bind fun bt157 => ((disk_Do.f k t138 t141 (([(⟨1, t146⟩ : S79), (⟨(-1), (⟨#[]⟩ : ByteArray)⟩ : S79)] : List (S79))) (-1)).bind fun bt167 => (if t144 = 0 then (if t153 = 0 then (if bt155.2 = 0 then (if bt155.1.toList = t146.toList then ((disk_Same.f k bt157.1 bt157.2 t138 t141).bind fun t175 => (if t175 = true then (if bt167.2.2 = 2 then ((disk_Flush.f t147 t150).bind fun bt176 => ((disk_Same.f k bt167.1 bt167.2.1 bt176.1 bt176.2).bind fun t182 => (if t182 = true then ((disk_Right.f t147 t150).bind fun t183 => (if t183 = true then ((disk_Same.f k t147 t150 t138 t141).bind fun t184 => (some (!t184))) else (none))) else (none)))) else (none)) else (none))) else (none)) else (none)) else (none)) else (none))))) = some r := H
  have A3 := Aside0.mk A30
  clear A30
  replace H := Option.bind_eq_some_iff.mp H
  obtain ⟨⟨t155, t156⟩, A40, H⟩ := H
  replace H : ((disk_Crash.f t147 t150 ([] : List Bool)).bind fun bt157 => ((disk_Do.f k t138 t141 (([(⟨1, t146⟩ : S79), (⟨(-1), (⟨#[]⟩ : ByteArray)⟩ : S79)] : List (S79))) (-1)).bind fun bt167 => (if t144 = 0 then (if t153 = 0 then (if t156 = 0 then (if t155.toList = t146.toList then ((disk_Same.f k bt157.1 bt157.2 t138 t141).bind fun t175 => (if t175 = true then (if bt167.2.2 = 2 then ((disk_Flush.f t147 t150).bind fun bt176 => ((disk_Same.f k bt167.1 bt167.2.1 bt176.1 bt176.2).bind fun t182 => (if t182 = true then ((disk_Right.f t147 t150).bind fun t183 => (if t183 = true then ((disk_Same.f k t147 t150 t138 t141).bind fun t184 => (some (!t184))) else (none))) else (none)))) else (none)) else (none))) else (none)) else (none)) else (none)) else (none)))) = some r := H
  have A4 := Aside0.mk A40
  clear A40
  replace H := Option.bind_eq_some_iff.mp H
  obtain ⟨⟨t157, t160⟩, A50, H⟩ := H
  replace H : ((disk_Do.f k t138 t141 (([(⟨1, t146⟩ : S79), (⟨(-1), (⟨#[]⟩ : ByteArray)⟩ : S79)] : List (S79))) (-1)).bind fun bt167 => (if t144 = 0 then (if t153 = 0 then (if t156 = 0 then (if t155.toList = t146.toList then ((disk_Same.f k t157 t160 t138 t141).bind fun t175 => (if t175 = true then (if bt167.2.2 = 2 then ((disk_Flush.f t147 t150).bind fun bt176 => ((disk_Same.f k bt167.1 bt167.2.1 bt176.1 bt176.2).bind fun t182 => (if t182 = true then ((disk_Right.f t147 t150).bind fun t183 => (if t183 = true then ((disk_Same.f k t147 t150 t138 t141).bind fun t184 => (some (!t184))) else (none))) else (none)))) else (none)) else (none))) else (none)) else (none)) else (none)) else (none))) = some r := H
  have A5 := Aside0.mk A50
  clear A50
  obtain ⟨y164, hy164⟩ : ∃ y_ : List (S79), y_ = (([(⟨1, t146⟩ : S79), (⟨(-1), (⟨#[]⟩ : ByteArray)⟩ : S79)] : List (S79))) := ⟨_, rfl⟩
  replace H : ((disk_Do.f k t138 t141 y164 (-1)).bind fun bt167 => (if t144 = 0 then (if t153 = 0 then (if t156 = 0 then (if t155.toList = t146.toList then ((disk_Same.f k t157 t160 t138 t141).bind fun t175 => (if t175 = true then (if bt167.2.2 = 2 then ((disk_Flush.f t147 t150).bind fun bt176 => ((disk_Same.f k bt167.1 bt167.2.1 bt176.1 bt176.2).bind fun t182 => (if t182 = true then ((disk_Right.f t147 t150).bind fun t183 => (if t183 = true then ((disk_Same.f k t147 t150 t138 t141).bind fun t184 => (some (!t184))) else (none))) else (none)))) else (none)) else (none))) else (none)) else (none)) else (none)) else (none))) = some r := by first | (rw [hy164]; with_reducible exact H) | (have H2_ := (Option.bind_some _ _).symm.trans H; rw [hy164]; with_reducible exact H2_) | (have H2_ := (Option.bind_some _ _).symm.trans H; with_reducible exact H2_) | with_reducible exact H | (rw [hy164]; exact H) | exact H
  have Ny164 := Aside0.mk hy164
  clear hy164
  replace H := Option.bind_eq_some_iff.mp H
  obtain ⟨⟨t167, t170, t173⟩, A60, H⟩ := H
  replace H : (if t144 = 0 then (if t153 = 0 then (if t156 = 0 then (if t155.toList = t146.toList then ((disk_Same.f k t157 t160 t138 t141).bind fun t175 => (if t175 = true then (if t173 = 2 then ((disk_Flush.f t147 t150).bind fun bt176 => ((disk_Same.f k t167 t170 bt176.1 bt176.2).bind fun t182 => (if t182 = true then ((disk_Right.f t147 t150).bind fun t183 => (if t183 = true then ((disk_Same.f k t147 t150 t138 t141).bind fun t184 => (some (!t184))) else (none))) else (none)))) else (none)) else (none))) else (none)) else (none)) else (none)) else (none)) = some r := H
  have A6 := Aside0.mk A60
  clear A60
  by_cases c7 : t144 = 0
  · rw [if_pos c7] at H
    have c7b0 : (t144 == 0) = true := beq_iff_eq.mpr c7
    have c7b1 : (t144 != 0) = false := bne_eq_false_iff_eq.mpr c7
    clear c7
    by_cases c8 : t153 = 0
    · rw [if_pos c8] at H
      have c8b0 : (t153 == 0) = true := beq_iff_eq.mpr c8
      have c8b1 : (t153 != 0) = false := bne_eq_false_iff_eq.mpr c8
      clear c8
      by_cases c9 : t156 = 0
      · rw [if_pos c9] at H
        have c9b0 : (t156 == 0) = true := beq_iff_eq.mpr c9
        have c9b1 : (t156 != 0) = false := bne_eq_false_iff_eq.mpr c9
        clear c9
        by_cases c10 : t155.toList = t146.toList
        · rw [if_pos c10] at H
          have c10b0 : (t155.toList == t146.toList) = true := beq_iff_eq.mpr c10
          have c10b1 : (t155.toList != t146.toList) = false := bne_eq_false_iff_eq.mpr c10
          clear c10
          replace H := Option.bind_eq_some_iff.mp H
          obtain ⟨t175, A110, H⟩ := H
          replace H : (if t175 = true then (if t173 = 2 then ((disk_Flush.f t147 t150).bind fun bt176 => ((disk_Same.f k t167 t170 bt176.1 bt176.2).bind fun t182 => (if t182 = true then ((disk_Right.f t147 t150).bind fun t183 => (if t183 = true then ((disk_Same.f k t147 t150 t138 t141).bind fun t184 => (some (!t184))) else (none))) else (none)))) else (none)) else (none)) = some r := H
          have A11 := Aside0.mk A110
          clear A110
          by_cases c12 : t175 = true
          · subst c12
            have H1 : (if t173 = 2 then ((disk_Flush.f t147 t150).bind fun bt176 => ((disk_Same.f k t167 t170 bt176.1 bt176.2).bind fun t182 => (if t182 = true then ((disk_Right.f t147 t150).bind fun t183 => (if t183 = true then ((disk_Same.f k t147 t150 t138 t141).bind fun t184 => (some (!t184))) else (none))) else (none)))) else (none)) = some r := by rw [if_pos rfl] at H; exact H
            clear H
            have H := H1
            clear H1
            by_cases c13 : t173 = 2
            · rw [if_pos c13] at H
              have c13b0 : (t173 == 2) = true := beq_iff_eq.mpr c13
              have c13b1 : (t173 != 2) = false := bne_eq_false_iff_eq.mpr c13
              clear c13
              replace H := Option.bind_eq_some_iff.mp H
              obtain ⟨⟨t176, t179⟩, A140, H⟩ := H
              replace H : ((disk_Same.f k t167 t170 t176 t179).bind fun t182 => (if t182 = true then ((disk_Right.f t147 t150).bind fun t183 => (if t183 = true then ((disk_Same.f k t147 t150 t138 t141).bind fun t184 => (some (!t184))) else (none))) else (none))) = some r := H
              have A14 := Aside0.mk A140
              clear A140
              replace H := Option.bind_eq_some_iff.mp H
              obtain ⟨t182, A150, H⟩ := H
              replace H : (if t182 = true then ((disk_Right.f t147 t150).bind fun t183 => (if t183 = true then ((disk_Same.f k t147 t150 t138 t141).bind fun t184 => (some (!t184))) else (none))) else (none)) = some r := H
              have A15 := Aside0.mk A150
              clear A150
              by_cases c16 : t182 = true
              · subst c16
                have H1 : ((disk_Right.f t147 t150).bind fun t183 => (if t183 = true then ((disk_Same.f k t147 t150 t138 t141).bind fun t184 => (some (!t184))) else (none))) = some r := by rw [if_pos rfl] at H; exact H
                clear H
                have H := H1
                clear H1
                replace H := Option.bind_eq_some_iff.mp H
                obtain ⟨t183, A170, H⟩ := H
                replace H : (if t183 = true then ((disk_Same.f k t147 t150 t138 t141).bind fun t184 => (some (!t184))) else (none)) = some r := H
                have A17 := Aside0.mk A170
                clear A170
                by_cases c18 : t183 = true
                · subst c18
                  have H1 : ((disk_Same.f k t147 t150 t138 t141).bind fun t184 => (some (!t184))) = some r := by rw [if_pos rfl] at H; exact H
                  clear H
                  have H := H1
                  clear H1
                  replace H := Option.bind_eq_some_iff.mp H
                  obtain ⟨t184, A190, H⟩ := H
                  replace H : (some (!t184)) = some r := H
                  have A19 := Aside0.mk A190
                  clear A190
                  obtain rfl := Option.some.inj H
                  go_enter Try.func33, Try.ntmps33
                  try go_wp2_with (first | ((with_reducible refine gate_callee (f := 35) rfl ?_); refine goesL_ (some 12) rfl rfl Try.func35 (by kernel_rfl) rfl #[.int .i64 2] rfl (by (try simp only [List.map_toArray, List.map_cons, List.map_nil]); first | done | rfl | (simp only [List.length_drop, List.length_take]; rfl)) ?_; (with_reducible refine (disk_New.calls k 2 t138 t141 t144 _ A1.out).mono ?_); rintro e w20 ⟨v139, v142, rfl, ho0, ho1, hb⟩; refine ⟨_, rfl, ?_⟩; have n0_ := Aside0.mk (Kd.R_lower ho0 (below_size (by repeat (first | (with_reducible first | exact HB.out | apply below_alloc | apply pw_below_drewN | apply below_drew1) | exact HB.out)))); have n1_ := Aside0.mk (Kd.R_lower ho1 (below_size (by repeat (first | (with_reducible first | exact HB.out | apply below_alloc | apply pw_below_drewN | apply below_drew1) | exact HB.out)))); have n2_ := Aside0.mk (below_step (by repeat (first | (with_reducible first | exact HB.out | apply below_alloc | apply pw_below_drewN | apply below_drew1) | exact HB.out)) hb); clear HB; have HO140 := n0_; have HO143 := n1_; have HB := n2_; clear n0_ n1_ n2_; (try clear hb); (try clear hb2); (try clear hk); (try clear hi); (try clear ho0); (try clear ho1)) | ((with_reducible refine gate_dst (N := 1) rfl ?_); refine box_event ?hg (N := 1) ?hd (cs := #[.slice none 0 0, .slice none 0 0]) (t := 63) ?hr ?_; (case hd => rfl); (case hg => rfl); (case hr => first | (go_simp; done) | (go_simp; rfl)); intro gb145 hg w21 hbox hb; have n0_ := Aside0.mk (Kd.R_below (by (with_reducible repeat (first | apply Kd.R_alloc | apply Kd.R_drewN | apply Kd.R_drew)); exact HO140.out) hb); have n1_ := Aside0.mk (Kd.R_below (by (with_reducible repeat (first | apply Kd.R_alloc | apply Kd.R_drewN | apply Kd.R_drew)); exact HO143.out) hb); have n2_ := Aside0.mk (below_step (by repeat (first | (with_reducible first | exact HB.out | apply below_alloc | apply pw_below_drewN | apply below_drew1) | exact HB.out)) hb); have n3_ := Aside0.mk (hbox); have n4_ := Aside0.mk ((by rw [hg]; exact (below_size (by repeat (first | (with_reducible first | exact HB.out | apply below_alloc | apply pw_below_drewN | apply below_drew1) | exact HB.out))) : w.heap.size ≤ gb145)); have n5_ := Aside0.mk ((by rw [hg]; exact (below_size (by repeat (first | (with_reducible first | exact HB.out | apply below_alloc | apply pw_below_drewN | apply below_drew1) | exact HB.out))) : w.heap.size ≤ gb145)); clear HO140; clear HO143; clear HB; have HO140 := n0_; have HO143 := n1_; have HB := n2_; have BK145 := n3_; have GW145 := n4_; have GE145 := n5_; clear n0_ n1_ n2_ n3_ n4_ n5_; clear hb hbox hg; obtain ⟨Ao22, co22, eo22⟩ := Kd.R_slice HO140.out; subst eo22; have hcz23_0 : w21.cell? ⟨gb145, 0, none⟩ = some (.slice none 0 0) := (blk_cell BK145.out 0).trans rfl; have hcz23_1 : w21.cell? ⟨gb145, 1, none⟩ = some (.slice none 0 0) := (blk_cell BK145.out 1).trans rfl; have hfz23_0 := blk_frozen BK145.out 0; have hfz23_1 := blk_frozen BK145.out 1; obtain ⟨Ao24, co24, eo24⟩ := Kd.R_slice HO143.out; subst eo24) | (refine lit40 (o1 := ⟨some 15, _, _, _, _, _⟩) rfl rfl rfl rfl rfl rfl ?e1 ?e2 ?_; (case e1 => first | (go_simp; done) | (go_simp; rfl)); (case e2 => first | (go_simp; done) | (go_simp; rfl)); intro w25 hb; rw [rep_one A2.out]; have n0_ := Aside0.mk (Kd.R_below (by (with_reducible repeat (first | apply Kd.R_alloc | apply Kd.R_drewN | apply Kd.R_drew)); exact (Kd.R_mono (Kd.R_far (p := ⟨gb145, 1, none⟩) (Kd.R_far (p := ⟨gb145, 0, none⟩) (Kd.R_types HO140.out BK145.out (by decide)) (fun _ hk => hk.2) (.slice Ao22 t138.length co22)) (fun _ hk => hk.2) (.slice Ao24 t141.length co24)) (fun _ h_ => h_.1))) hb); have n1_ := Aside0.mk (Kd.R_below (by (with_reducible repeat (first | apply Kd.R_alloc | apply Kd.R_drewN | apply Kd.R_drew)); exact (Kd.R_mono (Kd.R_far (p := ⟨gb145, 1, none⟩) (Kd.R_far (p := ⟨gb145, 0, none⟩) (Kd.R_types HO143.out BK145.out (by decide)) (fun _ hk => hk.2) (.slice Ao22 t138.length co22)) (fun _ hk => hk.2) (.slice Ao24 t141.length co24)) (fun _ h_ => h_.1))) hb); have n2_ := Aside0.mk (blk_below (g := gb145) (o := .cells #[.slice Ao22 t138.length co22, .slice Ao24 t141.length co24] 63 (0, 0)) (by (with_reducible repeat (first | refine blk_drewN ?_ _ | refine blk_drew ?_ | refine blk_alloc ?_ _)); refine blk_put (cs := #[.slice Ao22 t138.length co22, .slice none 0 0]) ?_ 1 _ rfl; (with_reducible repeat (first | refine blk_drewN ?_ _ | refine blk_drew ?_ | refine blk_alloc ?_ _)); refine blk_put (cs := #[.slice none 0 0, .slice none 0 0]) ?_ 0 _ rfl; (with_reducible repeat (first | refine blk_drewN ?_ _ | refine blk_drew ?_ | refine blk_alloc ?_ _)); exact BK145.out) hb); have n3_ := Aside0.mk (below_step (by repeat (first | (with_reducible first | exact HB.out | apply below_alloc | apply pw_below_drewN | apply below_drew1 | refine below_set ?_ GE145.out) | exact HB.out)) hb); clear HO140; clear HO143; clear BK145; clear HB; have HO140 := n0_; have HO143 := n1_; have BK145 := n2_; have HB := n3_; clear n0_ n1_ n2_ n3_; (try clear hb); (try clear hb2); (try clear hk); (try clear hi); have hcz26_0 : w25.cell? ⟨gb145, 0, none⟩ = some (.slice Ao22 t138.length co22) := (blk_cell BK145.out 0).trans rfl; have hcz26_1 : w25.cell? ⟨gb145, 1, none⟩ = some (.slice Ao24 t141.length co24) := (blk_cell BK145.out 1).trans rfl; have hfz26_0 := blk_frozen BK145.out 0; have hfz26_1 := blk_frozen BK145.out 1) | ((with_reducible refine gate_callee (f := 44) rfl ?_); refine goesL_ (some 21) rfl rfl Try.func44 (by kernel_rfl) rfl #[.agg #[.slice Ao22 t138.length co22, .slice Ao24 t141.length co24], .int .i64 1, .string t146] rfl (by (try simp only [List.map_toArray, List.map_cons, List.map_nil]); first | done | rfl | (simp only [List.length_drop, List.length_take]; rfl)) ?_; (with_reducible refine (disk_Put.calls (fun k_ => some k_ = (.slice Ao22 t138.length co22 : Value).ownBlock) _ _ t138 (fun k_ => some k_ = (.slice Ao24 t141.length co24 : Value).ownBlock) _ _ t141 1 t146 t147 t150 t153 _ ?side1 ?side2 A3.out).mono ?_); (case side1 => exact Kd.R_V (Kd.R_tight rfl (Kd.R_types (Kd.R_apart' (HO140.out) (Kd.R_typed HO143.out) (by decide)) BK145.out (by decide)))); (case side2 => exact Kd.R_V (Kd.R_tight rfl (Kd.R_types (Kd.R_apart' (HO143.out) (Kd.R_typed HO140.out) (by decide)) BK145.out (by decide)))); rintro e w27 ⟨v148, v151, rfl, ho0, ho1, hb⟩; refine ⟨_, rfl, ?_⟩; have n0_ := Aside0.mk (Kd.R_below (by (with_reducible repeat (first | apply Kd.R_alloc | apply Kd.R_drewN | apply Kd.R_drew)); exact HO140.out) hb); have n1_ := Aside0.mk (Kd.R_below (by (with_reducible repeat (first | apply Kd.R_alloc | apply Kd.R_drewN | apply Kd.R_drew)); exact HO143.out) hb); have n2_ := Aside0.mk (Kd.V_lower (Kd.V_mono (ok' := fun k_ => k_ ≠ gb145) ho0 (fun k_ hk_ => Or.elim hk_ (fun hs_ => Or.elim hs_ (fun hs_ => ((Kd.R_types (Kd.R_apart' (HO140.out) (Kd.R_typed HO143.out) (by decide)) BK145.out (by decide)).1 k_ hs_.symm).2) (fun hs_ => ((Kd.R_types (Kd.R_apart' (HO143.out) (Kd.R_typed HO140.out) (by decide)) BK145.out (by decide)).1 k_ hs_.symm).2)) (fun hn_ => (Kd.freshB (g := gb145) (o := .cells #[.slice Ao22 t138.length co22, .slice Ao24 t141.length co24] 63 (0, 0)) (by (with_reducible repeat (first | refine blk_drewN ?_ _ | refine blk_drew ?_ | refine blk_alloc ?_ _)); exact BK145.out) k_ hn_)))) (below_size (by repeat (first | (with_reducible first | exact HB.out | apply below_alloc | apply pw_below_drewN | apply below_drew1 | refine below_set ?_ GE145.out) | exact HB.out)))); have n3_ := Aside0.mk (Kd.V_lower (Kd.V_mono (ok' := fun k_ => k_ ≠ gb145) ho1 (fun k_ hk_ => Or.elim hk_ (fun hs_ => Or.elim hs_ (fun hs_ => ((Kd.R_types (Kd.R_apart' (HO140.out) (Kd.R_typed HO143.out) (by decide)) BK145.out (by decide)).1 k_ hs_.symm).2) (fun hs_ => ((Kd.R_types (Kd.R_apart' (HO143.out) (Kd.R_typed HO140.out) (by decide)) BK145.out (by decide)).1 k_ hs_.symm).2)) (fun hn_ => (Kd.freshB (g := gb145) (o := .cells #[.slice Ao22 t138.length co22, .slice Ao24 t141.length co24] 63 (0, 0)) (by (with_reducible repeat (first | refine blk_drewN ?_ _ | refine blk_drew ?_ | refine blk_alloc ?_ _)); exact BK145.out) k_ hn_)))) (below_size (by repeat (first | (with_reducible first | exact HB.out | apply below_alloc | apply pw_below_drewN | apply below_drew1 | refine below_set ?_ GE145.out) | exact HB.out)))); have n4_ := Aside0.mk (blk_below (g := gb145) (o := .cells #[.slice Ao22 t138.length co22, .slice Ao24 t141.length co24] 63 (0, 0)) (by (with_reducible repeat (first | refine blk_drewN ?_ _ | refine blk_drew ?_ | refine blk_alloc ?_ _)); exact BK145.out) hb); have n5_ := Aside0.mk (below_step (by repeat (first | (with_reducible first | exact HB.out | apply below_alloc | apply pw_below_drewN | apply below_drew1 | refine below_set ?_ GE145.out) | exact HB.out)) hb); clear HO140; clear HO143; clear BK145; clear HB; have HO140 := n0_; have HO143 := n1_; have HO149 := n2_; have HO152 := n3_; have BK145 := n4_; have HB := n5_; clear n0_ n1_ n2_ n3_ n4_ n5_; (try clear hb); (try clear hb2); (try clear hk); (try clear hi); (try clear ho0); (try clear ho1)) | ((with_reducible refine gate_dst (N := 4) rfl ?_); refine box_event ?hg (N := 4) ?hd (cs := #[.slice none 0 0, .slice none 0 0]) (t := 63) ?hr ?_; (case hd => rfl); (case hg => rfl); (case hr => first | (go_simp; done) | (go_simp; rfl)); intro gb154 hg w28 hbox hb; have n0_ := Aside0.mk (Kd.R_below (by (with_reducible repeat (first | apply Kd.R_alloc | apply Kd.R_drewN | apply Kd.R_drew)); exact HO140.out) hb); have n1_ := Aside0.mk (Kd.R_below (by (with_reducible repeat (first | apply Kd.R_alloc | apply Kd.R_drewN | apply Kd.R_drew)); exact HO143.out) hb); have n2_ := Aside0.mk (Kd.V_below (Kd.V_elderB (by (with_reducible repeat (first | apply Kd.V_alloc | apply Kd.V_drewN | apply Kd.V_drew)); exact HO149.out) gb154 (Nat.le_of_eq hg.symm)) hb); have n3_ := Aside0.mk (Kd.V_below (Kd.V_elderB (by (with_reducible repeat (first | apply Kd.V_alloc | apply Kd.V_drewN | apply Kd.V_drew)); exact HO152.out) gb154 (Nat.le_of_eq hg.symm)) hb); have n4_ := Aside0.mk (blk_below (g := gb145) (o := .cells #[.slice Ao22 t138.length co22, .slice Ao24 t141.length co24] 63 (0, 0)) (by (with_reducible repeat (first | refine blk_drewN ?_ _ | refine blk_drew ?_ | refine blk_alloc ?_ _)); exact BK145.out) hb); have n5_ := Aside0.mk (below_step (by repeat (first | (with_reducible first | exact HB.out | apply below_alloc | apply pw_below_drewN | apply below_drew1 | refine below_set ?_ GE145.out) | exact HB.out)) hb); have n6_ := Aside0.mk (hbox); have n7_ := Aside0.mk ((by rw [hg]; exact (below_size (by repeat (first | (with_reducible first | exact HB.out | apply below_alloc | apply pw_below_drewN | apply below_drew1 | refine below_set ?_ GE145.out) | exact HB.out))) : w.heap.size ≤ gb154)); have n8_ := Aside0.mk ((by rw [hg]; exact (below_size (by repeat (first | (with_reducible first | exact HB.out | apply below_alloc | apply pw_below_drewN | apply below_drew1 | refine below_set ?_ GE145.out) | exact HB.out))) : w.heap.size ≤ gb154)); have n9_ := Aside0.mk ((by rw [hg]; exact Nat.ne_of_lt (blk_lt (g := gb145) (o := .cells #[.slice Ao22 t138.length co22, .slice Ao24 t141.length co24] 63 (0, 0)) (by (with_reducible repeat (first | refine blk_drewN ?_ _ | refine blk_drew ?_ | refine blk_alloc ?_ _)); exact BK145.out)) : gb145 ≠ gb154)); have n10_ := Aside0.mk ((by rw [hg]; exact Nat.ne_of_gt (blk_lt (g := gb145) (o := .cells #[.slice Ao22 t138.length co22, .slice Ao24 t141.length co24] 63 (0, 0)) (by (with_reducible repeat (first | refine blk_drewN ?_ _ | refine blk_drew ?_ | refine blk_alloc ?_ _)); exact BK145.out)) : gb154 ≠ gb145)); clear HO140; clear HO143; clear HO149; clear HO152; clear BK145; clear HB; have HO140 := n0_; have HO143 := n1_; have HO149 := n2_; have HO152 := n3_; have BK145 := n4_; have HB := n5_; have BK154 := n6_; have GW154 := n7_; have GE154 := n8_; have NB145_154 := n9_; have NB154_145 := n10_; clear n0_ n1_ n2_ n3_ n4_ n5_ n6_ n7_ n8_ n9_ n10_; clear hb hbox hg; obtain ⟨Ao29, co29, eo29⟩ := Kd.V_slice HO149.out; subst eo29; have hnb30 := NB154_145.out; have hnc30 := NB145_154.out; have hcz31_0 : w28.cell? ⟨gb154, 0, none⟩ = some (.slice none 0 0) := (blk_cell BK154.out 0).trans rfl; have hcz31_1 : w28.cell? ⟨gb154, 1, none⟩ = some (.slice none 0 0) := (blk_cell BK154.out 1).trans rfl; have hfz31_0 := blk_frozen BK154.out 0; have hfz31_1 := blk_frozen BK154.out 1; obtain ⟨Ao32, co32, eo32⟩ := Kd.V_slice HO152.out; subst eo32) | ((with_reducible refine gate_callee (f := 40) rfl ?_); refine goesL_ (some 26) rfl rfl Try.func40 (by kernel_rfl) rfl #[.agg #[.slice Ao29 t147.length co29, .slice Ao32 t150.length co32], .int .i64 1] rfl (by (try simp only [List.map_toArray, List.map_cons, List.map_nil]); first | done | rfl | (simp only [List.length_drop, List.length_take]; rfl)) ?_; (with_reducible refine (disk_Read.calls _ _ t147 _ _ t150 1 t155 t156 _ ?side1 ?side2 ?side3 ?side4 A4.out).mono ?_); (case side1 => refine (Kd.V_reads' (e := 9) (base := w.heap.size) (ok := fun k_ => (k_ ≠ gb145 ∧ k_ ≠ gb154)) (n := t147.length) (c := co29) ?_).2.2; exact (by (with_reducible repeat (first | apply Kd.V_alloc | apply Kd.V_drewN | apply Kd.V_drew)); exact (Kd.V_mono (Kd.V_far (p := ⟨gb154, 1, none⟩) (Kd.V_far (p := ⟨gb154, 0, none⟩) (Kd.V_mono HO149.out (fun k_ hk => (⟨hk, hk.2⟩ : _ ∧ k_ ≠ gb154))) (fun _ hk => hk.2) (.slice Ao29 t147.length co29)) (fun _ hk => hk.2) (.slice Ao32 t150.length co32)) (fun _ h_ => h_.1)))); (case side2 => exact (Kd.V_reads' HO149.out).2.1); (case side3 => refine (Kd.V_reads' (e := 79) (base := w.heap.size) (ok := fun k_ => (k_ ≠ gb145 ∧ k_ ≠ gb154)) (n := t150.length) (c := co32) ?_).2.2; exact (by (with_reducible repeat (first | apply Kd.V_alloc | apply Kd.V_drewN | apply Kd.V_drew)); exact (Kd.V_mono (Kd.V_far (p := ⟨gb154, 1, none⟩) (Kd.V_far (p := ⟨gb154, 0, none⟩) (Kd.V_mono HO152.out (fun k_ hk => (⟨hk, hk.2⟩ : _ ∧ k_ ≠ gb154))) (fun _ hk => hk.2) (.slice Ao29 t147.length co29)) (fun _ hk => hk.2) (.slice Ao32 t150.length co32)) (fun _ h_ => h_.1)))); (case side4 => exact (Kd.V_reads' HO152.out).2.1); rintro e w33 ⟨rfl, hb⟩; refine ⟨_, rfl, ?_⟩; have n0_ := Aside0.mk (Kd.R_below (by (with_reducible repeat (first | apply Kd.R_alloc | apply Kd.R_drewN | apply Kd.R_drew)); exact (Kd.R_mono (Kd.R_far (p := ⟨gb154, 1, none⟩) (Kd.R_far (p := ⟨gb154, 0, none⟩) (Kd.R_types HO140.out BK154.out (by decide)) (fun _ hk => hk.2) (.slice Ao29 t147.length co29)) (fun _ hk => hk.2) (.slice Ao32 t150.length co32)) (fun _ h_ => h_.1))) hb); have n1_ := Aside0.mk (Kd.R_below (by (with_reducible repeat (first | apply Kd.R_alloc | apply Kd.R_drewN | apply Kd.R_drew)); exact (Kd.R_mono (Kd.R_far (p := ⟨gb154, 1, none⟩) (Kd.R_far (p := ⟨gb154, 0, none⟩) (Kd.R_types HO143.out BK154.out (by decide)) (fun _ hk => hk.2) (.slice Ao29 t147.length co29)) (fun _ hk => hk.2) (.slice Ao32 t150.length co32)) (fun _ h_ => h_.1))) hb); have n2_ := Aside0.mk (Kd.V_below (by (with_reducible repeat (first | apply Kd.V_alloc | apply Kd.V_drewN | apply Kd.V_drew)); exact (Kd.V_mono (Kd.V_far (p := ⟨gb154, 1, none⟩) (Kd.V_far (p := ⟨gb154, 0, none⟩) (Kd.V_mono HO149.out (fun k_ hk => (⟨hk, hk.2⟩ : _ ∧ k_ ≠ gb154))) (fun _ hk => hk.2) (.slice Ao29 t147.length co29)) (fun _ hk => hk.2) (.slice Ao32 t150.length co32)) (fun _ h_ => h_.1))) hb); have n3_ := Aside0.mk (Kd.V_below (by (with_reducible repeat (first | apply Kd.V_alloc | apply Kd.V_drewN | apply Kd.V_drew)); exact (Kd.V_mono (Kd.V_far (p := ⟨gb154, 1, none⟩) (Kd.V_far (p := ⟨gb154, 0, none⟩) (Kd.V_mono HO152.out (fun k_ hk => (⟨hk, hk.2⟩ : _ ∧ k_ ≠ gb154))) (fun _ hk => hk.2) (.slice Ao29 t147.length co29)) (fun _ hk => hk.2) (.slice Ao32 t150.length co32)) (fun _ h_ => h_.1))) hb); have n4_ := Aside0.mk (blk_below (g := gb145) (o := .cells #[.slice Ao22 t138.length co22, .slice Ao24 t141.length co24] 63 (0, 0)) (by (with_reducible repeat (first | refine blk_drewN ?_ _ | refine blk_drew ?_ | refine blk_alloc ?_ _)); refine blk_far ?_ NB145_154.out _; (with_reducible repeat (first | refine blk_drewN ?_ _ | refine blk_drew ?_ | refine blk_alloc ?_ _)); refine blk_far ?_ NB145_154.out _; (with_reducible repeat (first | refine blk_drewN ?_ _ | refine blk_drew ?_ | refine blk_alloc ?_ _)); exact BK145.out) hb); have n5_ := Aside0.mk (blk_below (g := gb154) (o := .cells #[.slice Ao29 t147.length co29, .slice Ao32 t150.length co32] 63 (0, 0)) (by (with_reducible repeat (first | refine blk_drewN ?_ _ | refine blk_drew ?_ | refine blk_alloc ?_ _)); refine blk_put (cs := #[.slice Ao29 t147.length co29, .slice none 0 0]) ?_ 1 _ rfl; (with_reducible repeat (first | refine blk_drewN ?_ _ | refine blk_drew ?_ | refine blk_alloc ?_ _)); refine blk_put (cs := #[.slice none 0 0, .slice none 0 0]) ?_ 0 _ rfl; (with_reducible repeat (first | refine blk_drewN ?_ _ | refine blk_drew ?_ | refine blk_alloc ?_ _)); exact BK154.out) hb); have n6_ := Aside0.mk (below_step (by repeat (first | (with_reducible first | exact HB.out | apply below_alloc | apply pw_below_drewN | apply below_drew1 | refine below_set ?_ GE145.out | refine below_set ?_ GE154.out) | exact HB.out)) hb); clear HO140; clear HO143; clear HO149; clear HO152; clear BK145; clear BK154; clear HB; have HO140 := n0_; have HO143 := n1_; have HO149 := n2_; have HO152 := n3_; have BK145 := n4_; have BK154 := n5_; have HB := n6_; clear n0_ n1_ n2_ n3_ n4_ n5_ n6_; (try clear hb); (try clear hb2); (try clear hk); (try clear hi); have hcz34_0 : w33.cell? ⟨gb154, 0, none⟩ = some (.slice Ao29 t147.length co29) := (blk_cell BK154.out 0).trans rfl; have hcz34_1 : w33.cell? ⟨gb154, 1, none⟩ = some (.slice Ao32 t150.length co32) := (blk_cell BK154.out 1).trans rfl; have hfz34_0 := blk_frozen BK154.out 0; have hfz34_1 := blk_frozen BK154.out 1) | ((with_reducible refine gate_callee (f := 50) rfl ?_); refine goesL_ (some 30) rfl rfl Try.func50 (by kernel_rfl) rfl #[.agg #[.slice Ao29 t147.length co29, .slice Ao32 t150.length co32], .slice none 0 0] rfl (by (try simp only [List.map_toArray, List.map_cons, List.map_nil]); first | done | rfl | (simp only [List.length_drop, List.length_take]; rfl)) ?_; (refine (disk_Crash.calls _ _ t147 _ _ t150 _ _ ([] : List Bool) t157 t160 _ ?side1 ?side2 ?side3 ?side4 ?side5 ?side6 A5.out).mono ?_); (case side1 => repeat (first | exact (Kd.V_reads' HO149.out).2.2 | (with_reducible refine Kd.C_alloc ?_ _) | (with_reducible refine Kd.C_drewN ?_ _) | (with_reducible refine Kd.C_drew ?_))); (case side2 => exact (Kd.V_reads' HO149.out).2.1); (case side3 => repeat (first | exact (Kd.V_reads' HO152.out).2.2 | (with_reducible refine Kd.C_alloc ?_ _) | (with_reducible refine Kd.C_drewN ?_ _) | (with_reducible refine Kd.C_drew ?_))); (case side4 => exact (Kd.V_reads' HO152.out).2.1); (case side5 => exact Kd.C_nil _ _); (case side6 => exact Nat.le_refl _); rintro e w35 ⟨v158, v161, rfl, ho0, ho1, hb⟩; refine ⟨_, rfl, ?_⟩; have n0_ := Aside0.mk (Kd.R_elder' (by (with_reducible repeat (first | apply Kd.R_alloc | apply Kd.R_drewN | apply Kd.R_drew)); exact HO140.out) (Kd.R_base ho0) hb); have n1_ := Aside0.mk (Kd.R_elder' (by (with_reducible repeat (first | apply Kd.R_alloc | apply Kd.R_drewN | apply Kd.R_drew)); exact HO143.out) (Kd.R_base ho1) hb); have n2_ := Aside0.mk (Kd.V_mono (Kd.V_told (Kd.V_told (Kd.V_old (by (with_reducible repeat (first | apply Kd.V_alloc | apply Kd.V_drewN | apply Kd.V_drew)); exact HO149.out) hb) (Kd.R_base ho0)) (Kd.R_base ho1)) (fun _ h_ => h_.1)); have n3_ := Aside0.mk (Kd.V_mono (Kd.V_told (Kd.V_told (Kd.V_old (by (with_reducible repeat (first | apply Kd.V_alloc | apply Kd.V_drewN | apply Kd.V_drew)); exact HO152.out) hb) (Kd.R_base ho0)) (Kd.R_base ho1)) (fun _ h_ => h_.1)); have n4_ := Aside0.mk (Kd.R_lower (Kd.R_new' ho0 (Kd.R_lt (by (with_reducible repeat (first | apply Kd.R_alloc | apply Kd.R_drewN | apply Kd.R_drew)); exact HO140.out))) (below_size (by repeat (first | (with_reducible first | exact HB.out | apply below_alloc | apply pw_below_drewN | apply below_drew1 | refine below_set ?_ GE145.out | refine below_set ?_ GE154.out) | exact HB.out)))); have n5_ := Aside0.mk (Kd.R_lower (Kd.R_new' ho1 (Kd.R_lt (by (with_reducible repeat (first | apply Kd.R_alloc | apply Kd.R_drewN | apply Kd.R_drew)); exact HO143.out))) (below_size (by repeat (first | (with_reducible first | exact HB.out | apply below_alloc | apply pw_below_drewN | apply below_drew1 | refine below_set ?_ GE145.out | refine below_set ?_ GE154.out) | exact HB.out)))); have n6_ := Aside0.mk (blk_below (g := gb145) (o := .cells #[.slice Ao22 t138.length co22, .slice Ao24 t141.length co24] 63 (0, 0)) (by (with_reducible repeat (first | refine blk_drewN ?_ _ | refine blk_drew ?_ | refine blk_alloc ?_ _)); exact BK145.out) hb); have n7_ := Aside0.mk (blk_below (g := gb154) (o := .cells #[.slice Ao29 t147.length co29, .slice Ao32 t150.length co32] 63 (0, 0)) (by (with_reducible repeat (first | refine blk_drewN ?_ _ | refine blk_drew ?_ | refine blk_alloc ?_ _)); exact BK154.out) hb); have n8_ := Aside0.mk (below_step (by repeat (first | (with_reducible first | exact HB.out | apply below_alloc | apply pw_below_drewN | apply below_drew1 | refine below_set ?_ GE145.out | refine below_set ?_ GE154.out) | exact HB.out)) hb); clear HO140; clear HO143; clear HO149; clear HO152; clear BK145; clear BK154; clear HB; have HO140 := n0_; have HO143 := n1_; have HO149 := n2_; have HO152 := n3_; have HO159 := n4_; have HO162 := n5_; have BK145 := n6_; have BK154 := n7_; have HB := n8_; clear n0_ n1_ n2_ n3_ n4_ n5_ n6_ n7_ n8_; (try clear hb); (try clear hb2); (try clear hk); (try clear hi); (try clear ho0); (try clear ho1)) | ((with_reducible refine gate_dst (N := 8) rfl ?_); refine box_event ?hg (N := 8) ?hd (cs := #[.slice none 0 0, .slice none 0 0]) (t := 63) ?hr ?_; (case hd => rfl); (case hg => rfl); (case hr => first | (go_simp; done) | (go_simp; rfl)); intro gb163 hg w36 hbox hb; have n0_ := Aside0.mk (Kd.R_below (by (with_reducible repeat (first | apply Kd.R_alloc | apply Kd.R_drewN | apply Kd.R_drew)); exact HO140.out) hb); have n1_ := Aside0.mk (Kd.R_below (by (with_reducible repeat (first | apply Kd.R_alloc | apply Kd.R_drewN | apply Kd.R_drew)); exact HO143.out) hb); have n2_ := Aside0.mk (Kd.V_below (Kd.V_elderB (by (with_reducible repeat (first | apply Kd.V_alloc | apply Kd.V_drewN | apply Kd.V_drew)); exact HO149.out) gb163 (Nat.le_of_eq hg.symm)) hb); have n3_ := Aside0.mk (Kd.V_below (Kd.V_elderB (by (with_reducible repeat (first | apply Kd.V_alloc | apply Kd.V_drewN | apply Kd.V_drew)); exact HO152.out) gb163 (Nat.le_of_eq hg.symm)) hb); have n4_ := Aside0.mk (Kd.R_below (by (with_reducible repeat (first | apply Kd.R_alloc | apply Kd.R_drewN | apply Kd.R_drew)); exact HO159.out) hb); have n5_ := Aside0.mk (Kd.R_below (by (with_reducible repeat (first | apply Kd.R_alloc | apply Kd.R_drewN | apply Kd.R_drew)); exact HO162.out) hb); have n6_ := Aside0.mk (blk_below (g := gb145) (o := .cells #[.slice Ao22 t138.length co22, .slice Ao24 t141.length co24] 63 (0, 0)) (by (with_reducible repeat (first | refine blk_drewN ?_ _ | refine blk_drew ?_ | refine blk_alloc ?_ _)); exact BK145.out) hb); have n7_ := Aside0.mk (blk_below (g := gb154) (o := .cells #[.slice Ao29 t147.length co29, .slice Ao32 t150.length co32] 63 (0, 0)) (by (with_reducible repeat (first | refine blk_drewN ?_ _ | refine blk_drew ?_ | refine blk_alloc ?_ _)); exact BK154.out) hb); have n8_ := Aside0.mk (below_step (by repeat (first | (with_reducible first | exact HB.out | apply below_alloc | apply pw_below_drewN | apply below_drew1 | refine below_set ?_ GE145.out | refine below_set ?_ GE154.out) | exact HB.out)) hb); have n9_ := Aside0.mk (hbox); have n10_ := Aside0.mk ((by rw [hg]; exact (below_size (by repeat (first | (with_reducible first | exact HB.out | apply below_alloc | apply pw_below_drewN | apply below_drew1 | refine below_set ?_ GE145.out | refine below_set ?_ GE154.out) | exact HB.out))) : w.heap.size ≤ gb163)); have n11_ := Aside0.mk ((by rw [hg]; exact (below_size (by repeat (first | (with_reducible first | exact HB.out | apply below_alloc | apply pw_below_drewN | apply below_drew1 | refine below_set ?_ GE145.out | refine below_set ?_ GE154.out) | exact HB.out))) : w.heap.size ≤ gb163)); have n12_ := Aside0.mk ((by rw [hg]; exact Nat.ne_of_lt (blk_lt (g := gb145) (o := .cells #[.slice Ao22 t138.length co22, .slice Ao24 t141.length co24] 63 (0, 0)) (by (with_reducible repeat (first | refine blk_drewN ?_ _ | refine blk_drew ?_ | refine blk_alloc ?_ _)); exact BK145.out)) : gb145 ≠ gb163)); have n13_ := Aside0.mk ((by rw [hg]; exact Nat.ne_of_gt (blk_lt (g := gb145) (o := .cells #[.slice Ao22 t138.length co22, .slice Ao24 t141.length co24] 63 (0, 0)) (by (with_reducible repeat (first | refine blk_drewN ?_ _ | refine blk_drew ?_ | refine blk_alloc ?_ _)); exact BK145.out)) : gb163 ≠ gb145)); have n14_ := Aside0.mk ((by rw [hg]; exact Nat.ne_of_lt (blk_lt (g := gb154) (o := .cells #[.slice Ao29 t147.length co29, .slice Ao32 t150.length co32] 63 (0, 0)) (by (with_reducible repeat (first | refine blk_drewN ?_ _ | refine blk_drew ?_ | refine blk_alloc ?_ _)); exact BK154.out)) : gb154 ≠ gb163)); have n15_ := Aside0.mk ((by rw [hg]; exact Nat.ne_of_gt (blk_lt (g := gb154) (o := .cells #[.slice Ao29 t147.length co29, .slice Ao32 t150.length co32] 63 (0, 0)) (by (with_reducible repeat (first | refine blk_drewN ?_ _ | refine blk_drew ?_ | refine blk_alloc ?_ _)); exact BK154.out)) : gb163 ≠ gb154)); clear HO140; clear HO143; clear HO149; clear HO152; clear HO159; clear HO162; clear BK145; clear BK154; clear HB; have HO140 := n0_; have HO143 := n1_; have HO149 := n2_; have HO152 := n3_; have HO159 := n4_; have HO162 := n5_; have BK145 := n6_; have BK154 := n7_; have HB := n8_; have BK163 := n9_; have GW163 := n10_; have GE163 := n11_; have NB145_163 := n12_; have NB163_145 := n13_; have NB154_163 := n14_; have NB163_154 := n15_; clear n0_ n1_ n2_ n3_ n4_ n5_ n6_ n7_ n8_ n9_ n10_ n11_ n12_ n13_ n14_ n15_; clear hb hbox hg; obtain ⟨Ao37, co37, eo37⟩ := Kd.R_slice HO159.out; subst eo37; have hnb38 := NB163_145.out; have hnc38 := NB145_163.out; have hnb39 := NB163_154.out; have hnc39 := NB154_163.out; have hcz40_0 : w36.cell? ⟨gb163, 0, none⟩ = some (.slice none 0 0) := (blk_cell BK163.out 0).trans rfl; have hcz40_1 : w36.cell? ⟨gb163, 1, none⟩ = some (.slice none 0 0) := (blk_cell BK163.out 1).trans rfl; have hfz40_0 := blk_frozen BK163.out 0; have hfz40_1 := blk_frozen BK163.out 1; obtain ⟨Ao41, co41, eo41⟩ := Kd.R_slice HO162.out; subst eo41; have hcz42_0 : w36.cell? ⟨gb145, 0, none⟩ = some (.slice Ao22 t138.length co22) := (blk_cell BK145.out 0).trans rfl; have hcz42_1 : w36.cell? ⟨gb145, 1, none⟩ = some (.slice Ao24 t141.length co24) := (blk_cell BK145.out 1).trans rfl; have hfz42_0 := blk_frozen BK145.out 0; have hfz42_1 := blk_frozen BK145.out 1) | ((with_reducible refine gate_dst (N := 36) rfl ?_); refine Kd.R_lit k79 _ 79 ?hg (N := 36) ?hd (xs := ([(⟨1, t146⟩ : S79), (⟨(-1), (⟨#[]⟩ : ByteArray)⟩ : S79)] : List (S79))) (inner := [.int .i64 1, .string t146, .int .i64 (-1), .string (⟨#[]⟩ : ByteArray)]) (ok := fun _ => True) (okp := fun _ => True) ?hr ?hp (fun _ hk => hk) trivial (Below.refl _ _) (Nat.le_refl _) (by simp) ?_; (case hd => rfl); (case hg => rfl); (case hr => first | (go_simp; done) | (go_simp; rfl)); (case hp => exact (Reps.c2 (show Kd.M k79 _ _ _ (⟨1, t146⟩ : S79) [.int .i64 1, .string t146] from (k79_mkM _ _ _ (⟨1, t146⟩ : S79) )) (Reps.c2 (show Kd.M k79 _ _ _ (⟨(-1), (⟨#[]⟩ : ByteArray)⟩ : S79) [.int .i64 (-1), .string (⟨#[]⟩ : ByteArray)] from (k79_mkM _ _ _ (⟨(-1), (⟨#[]⟩ : ByteArray)⟩ : S79) )) (Reps.none _ _)))); intro v165 w43 ho44 hb hg_ hnew_; clear hg_ hnew_; (first | rw [← Ny164.out] at ho44 | (simp only [Int.reduceToNat] at ho44; rw [← Ny164.out] at ho44)); have n0_ := Aside0.mk (Kd.R_below (by (with_reducible repeat (first | apply Kd.R_alloc | apply Kd.R_drewN | apply Kd.R_drew)); exact (Kd.R_mono (Kd.R_far (p := ⟨gb163, 1, none⟩) (Kd.R_far (p := ⟨gb163, 0, none⟩) (Kd.R_types HO140.out BK163.out (by decide)) (fun _ hk => hk.2) (.slice Ao37 t157.length co37)) (fun _ hk => hk.2) (.slice Ao41 t160.length co41)) (fun _ h_ => h_.1))) hb); have n1_ := Aside0.mk (Kd.R_elder' (by (with_reducible repeat (first | apply Kd.R_alloc | apply Kd.R_drewN | apply Kd.R_drew)); exact (Kd.R_mono (Kd.R_far (p := ⟨gb163, 1, none⟩) (Kd.R_far (p := ⟨gb163, 0, none⟩) (Kd.R_types HO143.out BK163.out (by decide)) (fun _ hk => hk.2) (.slice Ao37 t157.length co37)) (fun _ hk => hk.2) (.slice Ao41 t160.length co41)) (fun _ h_ => h_.1))) (Kd.R_base ho44) hb); have n2_ := Aside0.mk (Kd.V_elder' (by (with_reducible repeat (first | apply Kd.V_alloc | apply Kd.V_drewN | apply Kd.V_drew)); exact (Kd.V_mono (Kd.V_far (p := ⟨gb163, 1, none⟩) (Kd.V_far (p := ⟨gb163, 0, none⟩) (Kd.V_mono HO149.out (fun k_ hk => (⟨hk, hk.2⟩ : _ ∧ k_ ≠ gb163))) (fun _ hk => hk.2) (.slice Ao37 t157.length co37)) (fun _ hk => hk.2) (.slice Ao41 t160.length co41)) (fun _ h_ => h_.1))) (Kd.R_base ho44) hb); have n3_ := Aside0.mk (Kd.V_elder' (by (with_reducible repeat (first | apply Kd.V_alloc | apply Kd.V_drewN | apply Kd.V_drew)); exact (Kd.V_mono (Kd.V_far (p := ⟨gb163, 1, none⟩) (Kd.V_far (p := ⟨gb163, 0, none⟩) (Kd.V_mono HO152.out (fun k_ hk => (⟨hk, hk.2⟩ : _ ∧ k_ ≠ gb163))) (fun _ hk => hk.2) (.slice Ao37 t157.length co37)) (fun _ hk => hk.2) (.slice Ao41 t160.length co41)) (fun _ h_ => h_.1))) (Kd.R_base ho44) hb); have n4_ := Aside0.mk (Kd.R_below (by (with_reducible repeat (first | apply Kd.R_alloc | apply Kd.R_drewN | apply Kd.R_drew)); exact (Kd.R_mono (Kd.R_far (p := ⟨gb163, 1, none⟩) (Kd.R_far (p := ⟨gb163, 0, none⟩) (Kd.R_types HO159.out BK163.out (by decide)) (fun _ hk => hk.2) (.slice Ao37 t157.length co37)) (fun _ hk => hk.2) (.slice Ao41 t160.length co41)) (fun _ h_ => h_.1))) hb); have n5_ := Aside0.mk (Kd.R_elder' (by (with_reducible repeat (first | apply Kd.R_alloc | apply Kd.R_drewN | apply Kd.R_drew)); exact (Kd.R_mono (Kd.R_far (p := ⟨gb163, 1, none⟩) (Kd.R_far (p := ⟨gb163, 0, none⟩) (Kd.R_types HO162.out BK163.out (by decide)) (fun _ hk => hk.2) (.slice Ao37 t157.length co37)) (fun _ hk => hk.2) (.slice Ao41 t160.length co41)) (fun _ h_ => h_.1))) (Kd.R_base ho44) hb); have n6_ := Aside0.mk (Kd.R_lower (Kd.R_new' (Kd.R_new' ho44 (Kd.R_lt (by (with_reducible repeat (first | apply Kd.R_alloc | apply Kd.R_drewN | apply Kd.R_drew)); exact (Kd.R_mono (Kd.R_far (p := ⟨gb163, 1, none⟩) (Kd.R_far (p := ⟨gb163, 0, none⟩) (Kd.R_types HO143.out BK163.out (by decide)) (fun _ hk => hk.2) (.slice Ao37 t157.length co37)) (fun _ hk => hk.2) (.slice Ao41 t160.length co41)) (fun _ h_ => h_.1))))) (Kd.R_lt (by (with_reducible repeat (first | apply Kd.R_alloc | apply Kd.R_drewN | apply Kd.R_drew)); exact (Kd.R_mono (Kd.R_far (p := ⟨gb163, 1, none⟩) (Kd.R_far (p := ⟨gb163, 0, none⟩) (Kd.R_types HO162.out BK163.out (by decide)) (fun _ hk => hk.2) (.slice Ao37 t157.length co37)) (fun _ hk => hk.2) (.slice Ao41 t160.length co41)) (fun _ h_ => h_.1))))) (below_size (by repeat (first | (with_reducible first | exact HB.out | apply below_alloc | apply pw_below_drewN | apply below_drew1 | refine below_set ?_ GE145.out | refine below_set ?_ GE154.out | refine below_set ?_ GE163.out) | exact HB.out)))); have n7_ := Aside0.mk (blk_below (g := gb145) (o := .cells #[.slice Ao22 t138.length co22, .slice Ao24 t141.length co24] 63 (0, 0)) (by (with_reducible repeat (first | refine blk_drewN ?_ _ | refine blk_drew ?_ | refine blk_alloc ?_ _)); refine blk_far ?_ NB145_163.out _; (with_reducible repeat (first | refine blk_drewN ?_ _ | refine blk_drew ?_ | refine blk_alloc ?_ _)); refine blk_far ?_ NB145_163.out _; (with_reducible repeat (first | refine blk_drewN ?_ _ | refine blk_drew ?_ | refine blk_alloc ?_ _)); exact BK145.out) hb); have n8_ := Aside0.mk (blk_below (g := gb154) (o := .cells #[.slice Ao29 t147.length co29, .slice Ao32 t150.length co32] 63 (0, 0)) (by (with_reducible repeat (first | refine blk_drewN ?_ _ | refine blk_drew ?_ | refine blk_alloc ?_ _)); refine blk_far ?_ NB154_163.out _; (with_reducible repeat (first | refine blk_drewN ?_ _ | refine blk_drew ?_ | refine blk_alloc ?_ _)); refine blk_far ?_ NB154_163.out _; (with_reducible repeat (first | refine blk_drewN ?_ _ | refine blk_drew ?_ | refine blk_alloc ?_ _)); exact BK154.out) hb); have n9_ := Aside0.mk (blk_below (g := gb163) (o := .cells #[.slice Ao37 t157.length co37, .slice Ao41 t160.length co41] 63 (0, 0)) (by (with_reducible repeat (first | refine blk_drewN ?_ _ | refine blk_drew ?_ | refine blk_alloc ?_ _)); refine blk_put (cs := #[.slice Ao37 t157.length co37, .slice none 0 0]) ?_ 1 _ rfl; (with_reducible repeat (first | refine blk_drewN ?_ _ | refine blk_drew ?_ | refine blk_alloc ?_ _)); refine blk_put (cs := #[.slice none 0 0, .slice none 0 0]) ?_ 0 _ rfl; (with_reducible repeat (first | refine blk_drewN ?_ _ | refine blk_drew ?_ | refine blk_alloc ?_ _)); exact BK163.out) hb); have n10_ := Aside0.mk (below_step (by repeat (first | (with_reducible first | exact HB.out | apply below_alloc | apply pw_below_drewN | apply below_drew1 | refine below_set ?_ GE145.out | refine below_set ?_ GE154.out | refine below_set ?_ GE163.out) | exact HB.out)) hb); clear HO140; clear HO143; clear HO149; clear HO152; clear HO159; clear HO162; clear BK145; clear BK154; clear BK163; clear HB; have HO140 := n0_; have HO143 := n1_; have HO149 := n2_; have HO152 := n3_; have HO159 := n4_; have HO162 := n5_; have HO166 := n6_; have BK145 := n7_; have BK154 := n8_; have BK163 := n9_; have HB := n10_; clear n0_ n1_ n2_ n3_ n4_ n5_ n6_ n7_ n8_ n9_ n10_; clear hb ho44; obtain ⟨Ao45, co45, eo45⟩ := Kd.R_slice HO166.out; subst eo45) | ((with_reducible refine gate_callee (f := 46) rfl ?_); refine goesL_ (some 37) rfl rfl Try.func46 (by kernel_rfl) rfl #[.agg #[.slice Ao22 t138.length co22, .slice Ao24 t141.length co24], .slice Ao45 y164.length co45, .int .i64 (-1)] rfl (by (try simp only [List.map_toArray, List.map_cons, List.map_nil]); first | done | rfl | (simp only [List.length_drop, List.length_take]; rfl)) ?_; (with_reducible refine (disk_Do.calls k (fun k_ => some k_ = (.slice Ao22 t138.length co22 : Value).ownBlock) _ _ t138 (fun k_ => some k_ = (.slice Ao24 t141.length co24 : Value).ownBlock) _ _ t141 _ _ y164 (-1) t167 t170 t173 _ ?side1 ?side2 ?side3 ?side4 A6.out).mono ?_); (case side1 => exact Kd.R_V (Kd.R_tight rfl (Kd.R_types (Kd.R_types (Kd.R_types (Kd.R_apart' (Kd.R_apart' (Kd.R_apart' (HO140.out) (Kd.R_typed HO143.out) (by decide)) (Kd.R_typed HO162.out) (by decide)) (Kd.R_typed HO166.out) (by decide)) BK145.out (by decide)) BK154.out (by decide)) BK163.out (by decide)))); (case side2 => exact Kd.R_V (Kd.R_tight rfl (Kd.R_types (Kd.R_types (Kd.R_types (Kd.R_apart' (Kd.R_apart' (HO143.out) (Kd.R_typed HO140.out) (by decide)) (Kd.R_typed HO159.out) (by decide)) BK145.out (by decide)) BK154.out (by decide)) BK163.out (by decide)))); (case side3 => repeat (first | exact (Kd.R_reads' HO166.out).2.2 | (with_reducible refine Kd.C_alloc ?_ _) | (with_reducible refine Kd.C_drewN ?_ _) | (with_reducible refine Kd.C_drew ?_))); (case side4 => exact (Kd.R_reads' HO166.out).2.1); rintro e w46 ⟨v168, v171, rfl, ho0, ho1, hb⟩; refine ⟨_, rfl, ?_⟩; have n0_ := Aside0.mk (Kd.R_below (by (with_reducible repeat (first | apply Kd.R_alloc | apply Kd.R_drewN | apply Kd.R_drew)); exact HO140.out) hb); have n1_ := Aside0.mk (Kd.R_below (by (with_reducible repeat (first | apply Kd.R_alloc | apply Kd.R_drewN | apply Kd.R_drew)); exact HO143.out) hb); have n2_ := Aside0.mk (Kd.V_below (by (with_reducible repeat (first | apply Kd.V_alloc | apply Kd.V_drewN | apply Kd.V_drew)); exact HO149.out) hb); have n3_ := Aside0.mk (Kd.V_below (by (with_reducible repeat (first | apply Kd.V_alloc | apply Kd.V_drewN | apply Kd.V_drew)); exact HO152.out) hb); have n4_ := Aside0.mk (Kd.R_below (by (with_reducible repeat (first | apply Kd.R_alloc | apply Kd.R_drewN | apply Kd.R_drew)); exact HO159.out) hb); have n5_ := Aside0.mk (Kd.R_below (by (with_reducible repeat (first | apply Kd.R_alloc | apply Kd.R_drewN | apply Kd.R_drew)); exact HO162.out) hb); have n6_ := Aside0.mk (Kd.R_below (by (with_reducible repeat (first | apply Kd.R_alloc | apply Kd.R_drewN | apply Kd.R_drew)); exact HO166.out) hb); have n7_ := Aside0.mk (Kd.V_lower (Kd.V_mono (ok' := fun k_ => some k_ ≠ (.slice Ao37 t157.length co37 : Value).ownBlock ∧ some k_ ≠ (.slice Ao41 t160.length co41 : Value).ownBlock ∧ some k_ ≠ (.slice Ao45 y164.length co45 : Value).ownBlock ∧ k_ ≠ gb145 ∧ k_ ≠ gb154 ∧ k_ ≠ gb163) ho0 (fun k_ hk_ => ⟨Or.elim hk_ (fun hs_ => Or.elim hs_ (fun hs_ => ((Kd.R_types (Kd.R_types (Kd.R_types (Kd.R_apart' (Kd.R_apart' (Kd.R_apart' (HO140.out) (Kd.R_typed HO143.out) (by decide)) (Kd.R_typed HO162.out) (by decide)) (Kd.R_typed HO166.out) (by decide)) BK145.out (by decide)) BK154.out (by decide)) BK163.out (by decide)).1 k_ hs_.symm).1.1.1.1.1.1.2) (fun hs_ => ((Kd.R_types (Kd.R_types (Kd.R_types (Kd.R_apart' (Kd.R_apart' (HO143.out) (Kd.R_typed HO140.out) (by decide)) (Kd.R_typed HO159.out) (by decide)) BK145.out (by decide)) BK154.out (by decide)) BK163.out (by decide)).1 k_ hs_.symm).1.1.1.2)) (fun hn_ => (Kd.fresh' (Kd.R_lt (by (with_reducible repeat (first | apply Kd.R_alloc | apply Kd.R_drewN | apply Kd.R_drew)); exact HO159.out)) k_ hn_)), Or.elim hk_ (fun hs_ => Or.elim hs_ (fun hs_ => ((Kd.R_types (Kd.R_types (Kd.R_types (Kd.R_apart' (Kd.R_apart' (Kd.R_apart' (HO140.out) (Kd.R_typed HO143.out) (by decide)) (Kd.R_typed HO162.out) (by decide)) (Kd.R_typed HO166.out) (by decide)) BK145.out (by decide)) BK154.out (by decide)) BK163.out (by decide)).1 k_ hs_.symm).1.1.1.1.2) (fun hs_ => ((Kd.R_types (Kd.R_types (Kd.R_types (Kd.R_apart' (Kd.R_apart' (HO143.out) (Kd.R_typed HO140.out) (by decide)) (Kd.R_typed HO159.out) (by decide)) BK145.out (by decide)) BK154.out (by decide)) BK163.out (by decide)).1 k_ hs_.symm).1.1.1.1.1.1.2)) (fun hn_ => (Kd.fresh' (Kd.R_lt (by (with_reducible repeat (first | apply Kd.R_alloc | apply Kd.R_drewN | apply Kd.R_drew)); exact HO162.out)) k_ hn_)), Or.elim hk_ (fun hs_ => Or.elim hs_ (fun hs_ => ((Kd.R_types (Kd.R_types (Kd.R_types (Kd.R_apart' (Kd.R_apart' (Kd.R_apart' (HO140.out) (Kd.R_typed HO143.out) (by decide)) (Kd.R_typed HO162.out) (by decide)) (Kd.R_typed HO166.out) (by decide)) BK145.out (by decide)) BK154.out (by decide)) BK163.out (by decide)).1 k_ hs_.symm).1.1.1.2) (fun hs_ => ((Kd.R_types (Kd.R_types (Kd.R_types (Kd.R_apart' (Kd.R_apart' (HO143.out) (Kd.R_typed HO140.out) (by decide)) (Kd.R_typed HO159.out) (by decide)) BK145.out (by decide)) BK154.out (by decide)) BK163.out (by decide)).1 k_ hs_.symm).1.1.1.1.1.2)) (fun hn_ => (Kd.fresh' (Kd.R_lt (by (with_reducible repeat (first | apply Kd.R_alloc | apply Kd.R_drewN | apply Kd.R_drew)); exact HO166.out)) k_ hn_)), Or.elim hk_ (fun hs_ => Or.elim hs_ (fun hs_ => ((Kd.R_types (Kd.R_types (Kd.R_types (Kd.R_apart' (Kd.R_apart' (Kd.R_apart' (HO140.out) (Kd.R_typed HO143.out) (by decide)) (Kd.R_typed HO162.out) (by decide)) (Kd.R_typed HO166.out) (by decide)) BK145.out (by decide)) BK154.out (by decide)) BK163.out (by decide)).1 k_ hs_.symm).1.1.2) (fun hs_ => ((Kd.R_types (Kd.R_types (Kd.R_types (Kd.R_apart' (Kd.R_apart' (HO143.out) (Kd.R_typed HO140.out) (by decide)) (Kd.R_typed HO159.out) (by decide)) BK145.out (by decide)) BK154.out (by decide)) BK163.out (by decide)).1 k_ hs_.symm).1.1.2)) (fun hn_ => (Kd.freshB (g := gb145) (o := .cells #[.slice Ao22 t138.length co22, .slice Ao24 t141.length co24] 63 (0, 0)) (by (with_reducible repeat (first | refine blk_drewN ?_ _ | refine blk_drew ?_ | refine blk_alloc ?_ _)); exact BK145.out) k_ hn_)), Or.elim hk_ (fun hs_ => Or.elim hs_ (fun hs_ => ((Kd.R_types (Kd.R_types (Kd.R_types (Kd.R_apart' (Kd.R_apart' (Kd.R_apart' (HO140.out) (Kd.R_typed HO143.out) (by decide)) (Kd.R_typed HO162.out) (by decide)) (Kd.R_typed HO166.out) (by decide)) BK145.out (by decide)) BK154.out (by decide)) BK163.out (by decide)).1 k_ hs_.symm).1.2) (fun hs_ => ((Kd.R_types (Kd.R_types (Kd.R_types (Kd.R_apart' (Kd.R_apart' (HO143.out) (Kd.R_typed HO140.out) (by decide)) (Kd.R_typed HO159.out) (by decide)) BK145.out (by decide)) BK154.out (by decide)) BK163.out (by decide)).1 k_ hs_.symm).1.2)) (fun hn_ => (Kd.freshB (g := gb154) (o := .cells #[.slice Ao29 t147.length co29, .slice Ao32 t150.length co32] 63 (0, 0)) (by (with_reducible repeat (first | refine blk_drewN ?_ _ | refine blk_drew ?_ | refine blk_alloc ?_ _)); exact BK154.out) k_ hn_)), Or.elim hk_ (fun hs_ => Or.elim hs_ (fun hs_ => ((Kd.R_types (Kd.R_types (Kd.R_types (Kd.R_apart' (Kd.R_apart' (Kd.R_apart' (HO140.out) (Kd.R_typed HO143.out) (by decide)) (Kd.R_typed HO162.out) (by decide)) (Kd.R_typed HO166.out) (by decide)) BK145.out (by decide)) BK154.out (by decide)) BK163.out (by decide)).1 k_ hs_.symm).2) (fun hs_ => ((Kd.R_types (Kd.R_types (Kd.R_types (Kd.R_apart' (Kd.R_apart' (HO143.out) (Kd.R_typed HO140.out) (by decide)) (Kd.R_typed HO159.out) (by decide)) BK145.out (by decide)) BK154.out (by decide)) BK163.out (by decide)).1 k_ hs_.symm).2)) (fun hn_ => (Kd.freshB (g := gb163) (o := .cells #[.slice Ao37 t157.length co37, .slice Ao41 t160.length co41] 63 (0, 0)) (by (with_reducible repeat (first | refine blk_drewN ?_ _ | refine blk_drew ?_ | refine blk_alloc ?_ _)); exact BK163.out) k_ hn_))⟩)) (below_size (by repeat (first | (with_reducible first | exact HB.out | apply below_alloc | apply pw_below_drewN | apply below_drew1 | refine below_set ?_ GE145.out | refine below_set ?_ GE154.out | refine below_set ?_ GE163.out) | exact HB.out)))); have n8_ := Aside0.mk (Kd.V_lower (Kd.V_mono (ok' := fun k_ => some k_ ≠ (.slice Ao37 t157.length co37 : Value).ownBlock ∧ some k_ ≠ (.slice Ao41 t160.length co41 : Value).ownBlock ∧ some k_ ≠ (.slice Ao45 y164.length co45 : Value).ownBlock ∧ k_ ≠ gb145 ∧ k_ ≠ gb154 ∧ k_ ≠ gb163) ho1 (fun k_ hk_ => ⟨Or.elim hk_ (fun hs_ => Or.elim hs_ (fun hs_ => ((Kd.R_types (Kd.R_types (Kd.R_types (Kd.R_apart' (Kd.R_apart' (Kd.R_apart' (HO140.out) (Kd.R_typed HO143.out) (by decide)) (Kd.R_typed HO162.out) (by decide)) (Kd.R_typed HO166.out) (by decide)) BK145.out (by decide)) BK154.out (by decide)) BK163.out (by decide)).1 k_ hs_.symm).1.1.1.1.1.1.2) (fun hs_ => ((Kd.R_types (Kd.R_types (Kd.R_types (Kd.R_apart' (Kd.R_apart' (HO143.out) (Kd.R_typed HO140.out) (by decide)) (Kd.R_typed HO159.out) (by decide)) BK145.out (by decide)) BK154.out (by decide)) BK163.out (by decide)).1 k_ hs_.symm).1.1.1.2)) (fun hn_ => (Kd.fresh' (Kd.R_lt (by (with_reducible repeat (first | apply Kd.R_alloc | apply Kd.R_drewN | apply Kd.R_drew)); exact HO159.out)) k_ hn_)), Or.elim hk_ (fun hs_ => Or.elim hs_ (fun hs_ => ((Kd.R_types (Kd.R_types (Kd.R_types (Kd.R_apart' (Kd.R_apart' (Kd.R_apart' (HO140.out) (Kd.R_typed HO143.out) (by decide)) (Kd.R_typed HO162.out) (by decide)) (Kd.R_typed HO166.out) (by decide)) BK145.out (by decide)) BK154.out (by decide)) BK163.out (by decide)).1 k_ hs_.symm).1.1.1.1.2) (fun hs_ => ((Kd.R_types (Kd.R_types (Kd.R_types (Kd.R_apart' (Kd.R_apart' (HO143.out) (Kd.R_typed HO140.out) (by decide)) (Kd.R_typed HO159.out) (by decide)) BK145.out (by decide)) BK154.out (by decide)) BK163.out (by decide)).1 k_ hs_.symm).1.1.1.1.1.1.2)) (fun hn_ => (Kd.fresh' (Kd.R_lt (by (with_reducible repeat (first | apply Kd.R_alloc | apply Kd.R_drewN | apply Kd.R_drew)); exact HO162.out)) k_ hn_)), Or.elim hk_ (fun hs_ => Or.elim hs_ (fun hs_ => ((Kd.R_types (Kd.R_types (Kd.R_types (Kd.R_apart' (Kd.R_apart' (Kd.R_apart' (HO140.out) (Kd.R_typed HO143.out) (by decide)) (Kd.R_typed HO162.out) (by decide)) (Kd.R_typed HO166.out) (by decide)) BK145.out (by decide)) BK154.out (by decide)) BK163.out (by decide)).1 k_ hs_.symm).1.1.1.2) (fun hs_ => ((Kd.R_types (Kd.R_types (Kd.R_types (Kd.R_apart' (Kd.R_apart' (HO143.out) (Kd.R_typed HO140.out) (by decide)) (Kd.R_typed HO159.out) (by decide)) BK145.out (by decide)) BK154.out (by decide)) BK163.out (by decide)).1 k_ hs_.symm).1.1.1.1.1.2)) (fun hn_ => (Kd.fresh' (Kd.R_lt (by (with_reducible repeat (first | apply Kd.R_alloc | apply Kd.R_drewN | apply Kd.R_drew)); exact HO166.out)) k_ hn_)), Or.elim hk_ (fun hs_ => Or.elim hs_ (fun hs_ => ((Kd.R_types (Kd.R_types (Kd.R_types (Kd.R_apart' (Kd.R_apart' (Kd.R_apart' (HO140.out) (Kd.R_typed HO143.out) (by decide)) (Kd.R_typed HO162.out) (by decide)) (Kd.R_typed HO166.out) (by decide)) BK145.out (by decide)) BK154.out (by decide)) BK163.out (by decide)).1 k_ hs_.symm).1.1.2) (fun hs_ => ((Kd.R_types (Kd.R_types (Kd.R_types (Kd.R_apart' (Kd.R_apart' (HO143.out) (Kd.R_typed HO140.out) (by decide)) (Kd.R_typed HO159.out) (by decide)) BK145.out (by decide)) BK154.out (by decide)) BK163.out (by decide)).1 k_ hs_.symm).1.1.2)) (fun hn_ => (Kd.freshB (g := gb145) (o := .cells #[.slice Ao22 t138.length co22, .slice Ao24 t141.length co24] 63 (0, 0)) (by (with_reducible repeat (first | refine blk_drewN ?_ _ | refine blk_drew ?_ | refine blk_alloc ?_ _)); exact BK145.out) k_ hn_)), Or.elim hk_ (fun hs_ => Or.elim hs_ (fun hs_ => ((Kd.R_types (Kd.R_types (Kd.R_types (Kd.R_apart' (Kd.R_apart' (Kd.R_apart' (HO140.out) (Kd.R_typed HO143.out) (by decide)) (Kd.R_typed HO162.out) (by decide)) (Kd.R_typed HO166.out) (by decide)) BK145.out (by decide)) BK154.out (by decide)) BK163.out (by decide)).1 k_ hs_.symm).1.2) (fun hs_ => ((Kd.R_types (Kd.R_types (Kd.R_types (Kd.R_apart' (Kd.R_apart' (HO143.out) (Kd.R_typed HO140.out) (by decide)) (Kd.R_typed HO159.out) (by decide)) BK145.out (by decide)) BK154.out (by decide)) BK163.out (by decide)).1 k_ hs_.symm).1.2)) (fun hn_ => (Kd.freshB (g := gb154) (o := .cells #[.slice Ao29 t147.length co29, .slice Ao32 t150.length co32] 63 (0, 0)) (by (with_reducible repeat (first | refine blk_drewN ?_ _ | refine blk_drew ?_ | refine blk_alloc ?_ _)); exact BK154.out) k_ hn_)), Or.elim hk_ (fun hs_ => Or.elim hs_ (fun hs_ => ((Kd.R_types (Kd.R_types (Kd.R_types (Kd.R_apart' (Kd.R_apart' (Kd.R_apart' (HO140.out) (Kd.R_typed HO143.out) (by decide)) (Kd.R_typed HO162.out) (by decide)) (Kd.R_typed HO166.out) (by decide)) BK145.out (by decide)) BK154.out (by decide)) BK163.out (by decide)).1 k_ hs_.symm).2) (fun hs_ => ((Kd.R_types (Kd.R_types (Kd.R_types (Kd.R_apart' (Kd.R_apart' (HO143.out) (Kd.R_typed HO140.out) (by decide)) (Kd.R_typed HO159.out) (by decide)) BK145.out (by decide)) BK154.out (by decide)) BK163.out (by decide)).1 k_ hs_.symm).2)) (fun hn_ => (Kd.freshB (g := gb163) (o := .cells #[.slice Ao37 t157.length co37, .slice Ao41 t160.length co41] 63 (0, 0)) (by (with_reducible repeat (first | refine blk_drewN ?_ _ | refine blk_drew ?_ | refine blk_alloc ?_ _)); exact BK163.out) k_ hn_))⟩)) (below_size (by repeat (first | (with_reducible first | exact HB.out | apply below_alloc | apply pw_below_drewN | apply below_drew1 | refine below_set ?_ GE145.out | refine below_set ?_ GE154.out | refine below_set ?_ GE163.out) | exact HB.out)))); have n9_ := Aside0.mk (blk_below (g := gb145) (o := .cells #[.slice Ao22 t138.length co22, .slice Ao24 t141.length co24] 63 (0, 0)) (by (with_reducible repeat (first | refine blk_drewN ?_ _ | refine blk_drew ?_ | refine blk_alloc ?_ _)); exact BK145.out) hb); have n10_ := Aside0.mk (blk_below (g := gb154) (o := .cells #[.slice Ao29 t147.length co29, .slice Ao32 t150.length co32] 63 (0, 0)) (by (with_reducible repeat (first | refine blk_drewN ?_ _ | refine blk_drew ?_ | refine blk_alloc ?_ _)); exact BK154.out) hb); have n11_ := Aside0.mk (blk_below (g := gb163) (o := .cells #[.slice Ao37 t157.length co37, .slice Ao41 t160.length co41] 63 (0, 0)) (by (with_reducible repeat (first | refine blk_drewN ?_ _ | refine blk_drew ?_ | refine blk_alloc ?_ _)); exact BK163.out) hb); have n12_ := Aside0.mk (below_step (by repeat (first | (with_reducible first | exact HB.out | apply below_alloc | apply pw_below_drewN | apply below_drew1 | refine below_set ?_ GE145.out | refine below_set ?_ GE154.out | refine below_set ?_ GE163.out) | exact HB.out)) hb); clear HO140; clear HO143; clear HO149; clear HO152; clear HO159; clear HO162; clear HO166; clear BK145; clear BK154; clear BK163; clear HB; have HO140 := n0_; have HO143 := n1_; have HO149 := n2_; have HO152 := n3_; have HO159 := n4_; have HO162 := n5_; have HO166 := n6_; have HO169 := n7_; have HO172 := n8_; have BK145 := n9_; have BK154 := n10_; have BK163 := n11_; have HB := n12_; clear n0_ n1_ n2_ n3_ n4_ n5_ n6_ n7_ n8_ n9_ n10_ n11_ n12_; (try clear hb); (try clear hb2); (try clear hk); (try clear hi); (try clear ho0); (try clear ho1)) | ((with_reducible refine gate_dst (N := 9) rfl ?_); refine box_event ?hg (N := 9) ?hd (cs := #[.slice none 0 0, .slice none 0 0]) (t := 63) ?hr ?_; (case hd => rfl); (case hg => rfl); (case hr => first | (go_simp; done) | (go_simp; rfl)); intro gb174 hg w47 hbox hb; have n0_ := Aside0.mk (Kd.R_below (by (with_reducible repeat (first | apply Kd.R_alloc | apply Kd.R_drewN | apply Kd.R_drew)); exact HO140.out) hb); have n1_ := Aside0.mk (Kd.R_below (by (with_reducible repeat (first | apply Kd.R_alloc | apply Kd.R_drewN | apply Kd.R_drew)); exact HO143.out) hb); have n2_ := Aside0.mk (Kd.V_below (Kd.V_elderB (by (with_reducible repeat (first | apply Kd.V_alloc | apply Kd.V_drewN | apply Kd.V_drew)); exact HO149.out) gb174 (Nat.le_of_eq hg.symm)) hb); have n3_ := Aside0.mk (Kd.V_below (Kd.V_elderB (by (with_reducible repeat (first | apply Kd.V_alloc | apply Kd.V_drewN | apply Kd.V_drew)); exact HO152.out) gb174 (Nat.le_of_eq hg.symm)) hb); have n4_ := Aside0.mk (Kd.R_below (by (with_reducible repeat (first | apply Kd.R_alloc | apply Kd.R_drewN | apply Kd.R_drew)); exact HO159.out) hb); have n5_ := Aside0.mk (Kd.R_below (by (with_reducible repeat (first | apply Kd.R_alloc | apply Kd.R_drewN | apply Kd.R_drew)); exact HO162.out) hb); have n6_ := Aside0.mk (Kd.R_below (by (with_reducible repeat (first | apply Kd.R_alloc | apply Kd.R_drewN | apply Kd.R_drew)); exact HO166.out) hb); have n7_ := Aside0.mk (Kd.V_below (Kd.V_elderB (by (with_reducible repeat (first | apply Kd.V_alloc | apply Kd.V_drewN | apply Kd.V_drew)); exact HO169.out) gb174 (Nat.le_of_eq hg.symm)) hb); have n8_ := Aside0.mk (Kd.V_below (Kd.V_elderB (by (with_reducible repeat (first | apply Kd.V_alloc | apply Kd.V_drewN | apply Kd.V_drew)); exact HO172.out) gb174 (Nat.le_of_eq hg.symm)) hb); have n9_ := Aside0.mk (blk_below (g := gb145) (o := .cells #[.slice Ao22 t138.length co22, .slice Ao24 t141.length co24] 63 (0, 0)) (by (with_reducible repeat (first | refine blk_drewN ?_ _ | refine blk_drew ?_ | refine blk_alloc ?_ _)); exact BK145.out) hb); have n10_ := Aside0.mk (blk_below (g := gb154) (o := .cells #[.slice Ao29 t147.length co29, .slice Ao32 t150.length co32] 63 (0, 0)) (by (with_reducible repeat (first | refine blk_drewN ?_ _ | refine blk_drew ?_ | refine blk_alloc ?_ _)); exact BK154.out) hb); have n11_ := Aside0.mk (blk_below (g := gb163) (o := .cells #[.slice Ao37 t157.length co37, .slice Ao41 t160.length co41] 63 (0, 0)) (by (with_reducible repeat (first | refine blk_drewN ?_ _ | refine blk_drew ?_ | refine blk_alloc ?_ _)); exact BK163.out) hb); have n12_ := Aside0.mk (below_step (by repeat (first | (with_reducible first | exact HB.out | apply below_alloc | apply pw_below_drewN | apply below_drew1 | refine below_set ?_ GE145.out | refine below_set ?_ GE154.out | refine below_set ?_ GE163.out) | exact HB.out)) hb); have n13_ := Aside0.mk (hbox); have n14_ := Aside0.mk ((by rw [hg]; exact (below_size (by repeat (first | (with_reducible first | exact HB.out | apply below_alloc | apply pw_below_drewN | apply below_drew1 | refine below_set ?_ GE145.out | refine below_set ?_ GE154.out | refine below_set ?_ GE163.out) | exact HB.out))) : w.heap.size ≤ gb174)); have n15_ := Aside0.mk ((by rw [hg]; exact (below_size (by repeat (first | (with_reducible first | exact HB.out | apply below_alloc | apply pw_below_drewN | apply below_drew1 | refine below_set ?_ GE145.out | refine below_set ?_ GE154.out | refine below_set ?_ GE163.out) | exact HB.out))) : w.heap.size ≤ gb174)); have n16_ := Aside0.mk ((by rw [hg]; exact Nat.ne_of_lt (blk_lt (g := gb145) (o := .cells #[.slice Ao22 t138.length co22, .slice Ao24 t141.length co24] 63 (0, 0)) (by (with_reducible repeat (first | refine blk_drewN ?_ _ | refine blk_drew ?_ | refine blk_alloc ?_ _)); exact BK145.out)) : gb145 ≠ gb174)); have n17_ := Aside0.mk ((by rw [hg]; exact Nat.ne_of_gt (blk_lt (g := gb145) (o := .cells #[.slice Ao22 t138.length co22, .slice Ao24 t141.length co24] 63 (0, 0)) (by (with_reducible repeat (first | refine blk_drewN ?_ _ | refine blk_drew ?_ | refine blk_alloc ?_ _)); exact BK145.out)) : gb174 ≠ gb145)); have n18_ := Aside0.mk ((by rw [hg]; exact Nat.ne_of_lt (blk_lt (g := gb154) (o := .cells #[.slice Ao29 t147.length co29, .slice Ao32 t150.length co32] 63 (0, 0)) (by (with_reducible repeat (first | refine blk_drewN ?_ _ | refine blk_drew ?_ | refine blk_alloc ?_ _)); exact BK154.out)) : gb154 ≠ gb174)); have n19_ := Aside0.mk ((by rw [hg]; exact Nat.ne_of_gt (blk_lt (g := gb154) (o := .cells #[.slice Ao29 t147.length co29, .slice Ao32 t150.length co32] 63 (0, 0)) (by (with_reducible repeat (first | refine blk_drewN ?_ _ | refine blk_drew ?_ | refine blk_alloc ?_ _)); exact BK154.out)) : gb174 ≠ gb154)); have n20_ := Aside0.mk ((by rw [hg]; exact Nat.ne_of_lt (blk_lt (g := gb163) (o := .cells #[.slice Ao37 t157.length co37, .slice Ao41 t160.length co41] 63 (0, 0)) (by (with_reducible repeat (first | refine blk_drewN ?_ _ | refine blk_drew ?_ | refine blk_alloc ?_ _)); exact BK163.out)) : gb163 ≠ gb174)); have n21_ := Aside0.mk ((by rw [hg]; exact Nat.ne_of_gt (blk_lt (g := gb163) (o := .cells #[.slice Ao37 t157.length co37, .slice Ao41 t160.length co41] 63 (0, 0)) (by (with_reducible repeat (first | refine blk_drewN ?_ _ | refine blk_drew ?_ | refine blk_alloc ?_ _)); exact BK163.out)) : gb174 ≠ gb163)); clear HO140; clear HO143; clear HO149; clear HO152; clear HO159; clear HO162; clear HO166; clear HO169; clear HO172; clear BK145; clear BK154; clear BK163; clear HB; have HO140 := n0_; have HO143 := n1_; have HO149 := n2_; have HO152 := n3_; have HO159 := n4_; have HO162 := n5_; have HO166 := n6_; have HO169 := n7_; have HO172 := n8_; have BK145 := n9_; have BK154 := n10_; have BK163 := n11_; have HB := n12_; have BK174 := n13_; have GW174 := n14_; have GE174 := n15_; have NB145_174 := n16_; have NB174_145 := n17_; have NB154_174 := n18_; have NB174_154 := n19_; have NB163_174 := n20_; have NB174_163 := n21_; clear n0_ n1_ n2_ n3_ n4_ n5_ n6_ n7_ n8_ n9_ n10_ n11_ n12_ n13_ n14_ n15_ n16_ n17_ n18_ n19_ n20_ n21_; clear hb hbox hg; obtain ⟨Ao48, co48, eo48⟩ := Kd.V_slice HO169.out; subst eo48; have hnb49 := NB174_145.out; have hnc49 := NB145_174.out; have hnb50 := NB174_154.out; have hnc50 := NB154_174.out; have hnb51 := NB174_163.out; have hnc51 := NB163_174.out; have hcz52_0 : w47.cell? ⟨gb174, 0, none⟩ = some (.slice none 0 0) := (blk_cell BK174.out 0).trans rfl; have hcz52_1 : w47.cell? ⟨gb174, 1, none⟩ = some (.slice none 0 0) := (blk_cell BK174.out 1).trans rfl; have hfz52_0 := blk_frozen BK174.out 0; have hfz52_1 := blk_frozen BK174.out 1; obtain ⟨Ao53, co53, eo53⟩ := Kd.V_slice HO172.out; subst eo53))
                  have n0_ : Aside0 (Kd.R Kd.string 9 ((w47.setCell ⟨gb174, 0, none⟩ (.slice Ao48 t167.length co48)).setCell ⟨gb174, 1, none⟩ (.slice Ao53 t170.length co53)) w.heap.size (fun k_ => some k_ ≠ (.slice Ao37 t157.length co37 : Value).ownBlock) (.slice Ao22 t138.length co22) t138) := ⟨by (with_reducible repeat (first | apply Kd.R_alloc | apply Kd.R_drewN | apply Kd.R_drew)); exact Kd.R_mono (Kd.R_far (p := ⟨gb174, 1, none⟩) (Kd.R_far (p := ⟨gb174, 0, none⟩) (Kd.R_types HO140.out BK174.out (by decide)) (fun _ hk => hk.2) (.slice Ao48 t167.length co48)) (fun _ hk => hk.2) (.slice Ao53 t170.length co53)) (fun _ hk => hk.1.2)⟩
                  have n1_ : Aside0 (Kd.R k79 79 ((w47.setCell ⟨gb174, 0, none⟩ (.slice Ao48 t167.length co48)).setCell ⟨gb174, 1, none⟩ (.slice Ao53 t170.length co53)) w.heap.size (fun k_ => some k_ ≠ (.slice Ao41 t160.length co41 : Value).ownBlock ∧ some k_ ≠ (.slice Ao45 y164.length co45 : Value).ownBlock) (.slice Ao24 t141.length co24) t141) := ⟨by (with_reducible repeat (first | apply Kd.R_alloc | apply Kd.R_drewN | apply Kd.R_drew)); exact Kd.R_mono (Kd.R_far (p := ⟨gb174, 1, none⟩) (Kd.R_far (p := ⟨gb174, 0, none⟩) (Kd.R_types HO143.out BK174.out (by decide)) (fun _ hk => hk.2) (.slice Ao48 t167.length co48)) (fun _ hk => hk.2) (.slice Ao53 t170.length co53)) (fun _ hk => ⟨hk.1.1.2, hk.1.2⟩)⟩
                  have n2_ : Aside0 (Kd.V Kd.string 9 ((w47.setCell ⟨gb174, 0, none⟩ (.slice Ao48 t167.length co48)).setCell ⟨gb174, 1, none⟩ (.slice Ao53 t170.length co53)) w.heap.size (fun k_ => some k_ ≠ (.slice Ao37 t157.length co37 : Value).ownBlock ∧ some k_ ≠ (.slice Ao41 t160.length co41 : Value).ownBlock ∧ some k_ ≠ (.slice Ao45 y164.length co45 : Value).ownBlock ∧ k_ ≠ gb145 ∧ k_ ≠ gb154 ∧ k_ ≠ gb163 ∧ k_ ≠ gb174) (.slice Ao29 t147.length co29) t147) := ⟨by (with_reducible repeat (first | apply Kd.V_alloc | apply Kd.V_drewN | apply Kd.V_drew)); exact Kd.V_mono (Kd.V_far (p := ⟨gb174, 1, none⟩) (Kd.V_far (p := ⟨gb174, 0, none⟩) (Kd.V_mono HO149.out (fun k_ hk => (⟨hk, hk.2⟩ : _ ∧ k_ ≠ gb174))) (fun _ hk => hk.2) (.slice Ao48 t167.length co48)) (fun _ hk => hk.2) (.slice Ao53 t170.length co53)) (fun _ hk => ⟨hk.1.1.1.1.1.2, ⟨hk.1.1.1.1.2, ⟨hk.1.1.2, ⟨hk.1.1.1.1.1.1.1, ⟨hk.1.1.1.1.1.1.2, ⟨hk.1.1.1.2, hk.1.2⟩⟩⟩⟩⟩⟩)⟩
                  have n3_ : Aside0 (Kd.V k79 79 ((w47.setCell ⟨gb174, 0, none⟩ (.slice Ao48 t167.length co48)).setCell ⟨gb174, 1, none⟩ (.slice Ao53 t170.length co53)) w.heap.size (fun k_ => some k_ ≠ (.slice Ao37 t157.length co37 : Value).ownBlock ∧ some k_ ≠ (.slice Ao41 t160.length co41 : Value).ownBlock ∧ some k_ ≠ (.slice Ao45 y164.length co45 : Value).ownBlock ∧ k_ ≠ gb145 ∧ k_ ≠ gb154 ∧ k_ ≠ gb163 ∧ k_ ≠ gb174) (.slice Ao32 t150.length co32) t150) := ⟨by (with_reducible repeat (first | apply Kd.V_alloc | apply Kd.V_drewN | apply Kd.V_drew)); exact Kd.V_mono (Kd.V_far (p := ⟨gb174, 1, none⟩) (Kd.V_far (p := ⟨gb174, 0, none⟩) (Kd.V_mono HO152.out (fun k_ hk => (⟨hk, hk.2⟩ : _ ∧ k_ ≠ gb174))) (fun _ hk => hk.2) (.slice Ao48 t167.length co48)) (fun _ hk => hk.2) (.slice Ao53 t170.length co53)) (fun _ hk => ⟨hk.1.1.1.1.1.2, ⟨hk.1.1.1.1.2, ⟨hk.1.1.2, ⟨hk.1.1.1.1.1.1.1, ⟨hk.1.1.1.1.1.1.2, ⟨hk.1.1.1.2, hk.1.2⟩⟩⟩⟩⟩⟩)⟩
                  have n4_ : Aside0 (Kd.R Kd.string 9 ((w47.setCell ⟨gb174, 0, none⟩ (.slice Ao48 t167.length co48)).setCell ⟨gb174, 1, none⟩ (.slice Ao53 t170.length co53)) w.heap.size (fun k_ => some k_ ≠ (.slice Ao22 t138.length co22 : Value).ownBlock) (.slice Ao37 t157.length co37) t157) := ⟨by (with_reducible repeat (first | apply Kd.R_alloc | apply Kd.R_drewN | apply Kd.R_drew)); exact Kd.R_mono (Kd.R_far (p := ⟨gb174, 1, none⟩) (Kd.R_far (p := ⟨gb174, 0, none⟩) (Kd.R_types HO159.out BK174.out (by decide)) (fun _ hk => hk.2) (.slice Ao48 t167.length co48)) (fun _ hk => hk.2) (.slice Ao53 t170.length co53)) (fun _ hk => hk.1.2)⟩
                  have n5_ : Aside0 (Kd.R k79 79 ((w47.setCell ⟨gb174, 0, none⟩ (.slice Ao48 t167.length co48)).setCell ⟨gb174, 1, none⟩ (.slice Ao53 t170.length co53)) w.heap.size (fun k_ => some k_ ≠ (.slice Ao24 t141.length co24 : Value).ownBlock ∧ some k_ ≠ (.slice Ao45 y164.length co45 : Value).ownBlock) (.slice Ao41 t160.length co41) t160) := ⟨by (with_reducible repeat (first | apply Kd.R_alloc | apply Kd.R_drewN | apply Kd.R_drew)); exact Kd.R_mono (Kd.R_far (p := ⟨gb174, 1, none⟩) (Kd.R_far (p := ⟨gb174, 0, none⟩) (Kd.R_types HO162.out BK174.out (by decide)) (fun _ hk => hk.2) (.slice Ao48 t167.length co48)) (fun _ hk => hk.2) (.slice Ao53 t170.length co53)) (fun _ hk => ⟨hk.1.1.2, hk.1.2⟩)⟩
                  have n6_ : Aside0 (Kd.R k79 79 ((w47.setCell ⟨gb174, 0, none⟩ (.slice Ao48 t167.length co48)).setCell ⟨gb174, 1, none⟩ (.slice Ao53 t170.length co53)) w.heap.size (fun k_ => some k_ ≠ (.slice Ao24 t141.length co24 : Value).ownBlock ∧ some k_ ≠ (.slice Ao41 t160.length co41 : Value).ownBlock) (.slice Ao45 y164.length co45) y164) := ⟨by (with_reducible repeat (first | apply Kd.R_alloc | apply Kd.R_drewN | apply Kd.R_drew)); exact Kd.R_mono (Kd.R_far (p := ⟨gb174, 1, none⟩) (Kd.R_far (p := ⟨gb174, 0, none⟩) (Kd.R_types HO166.out BK174.out (by decide)) (fun _ hk => hk.2) (.slice Ao48 t167.length co48)) (fun _ hk => hk.2) (.slice Ao53 t170.length co53)) (fun _ hk => ⟨hk.1.1.2, hk.1.2⟩)⟩
                  have n7_ : Aside0 (Kd.V Kd.string 9 ((w47.setCell ⟨gb174, 0, none⟩ (.slice Ao48 t167.length co48)).setCell ⟨gb174, 1, none⟩ (.slice Ao53 t170.length co53)) w.heap.size (fun k_ => some k_ ≠ (.slice Ao37 t157.length co37 : Value).ownBlock ∧ some k_ ≠ (.slice Ao41 t160.length co41 : Value).ownBlock ∧ some k_ ≠ (.slice Ao45 y164.length co45 : Value).ownBlock ∧ k_ ≠ gb145 ∧ k_ ≠ gb154 ∧ k_ ≠ gb163 ∧ k_ ≠ gb174) (.slice Ao48 t167.length co48) t167) := ⟨by (with_reducible repeat (first | apply Kd.V_alloc | apply Kd.V_drewN | apply Kd.V_drew)); exact Kd.V_mono (Kd.V_far (p := ⟨gb174, 1, none⟩) (Kd.V_far (p := ⟨gb174, 0, none⟩) (Kd.V_mono HO169.out (fun k_ hk => (⟨hk, hk.2⟩ : _ ∧ k_ ≠ gb174))) (fun _ hk => hk.2) (.slice Ao48 t167.length co48)) (fun _ hk => hk.2) (.slice Ao53 t170.length co53)) (fun _ hk => ⟨hk.1.1.1, ⟨hk.1.1.2.1, ⟨hk.1.1.2.2.1, ⟨hk.1.1.2.2.2.1, ⟨hk.1.1.2.2.2.2.1, ⟨hk.1.1.2.2.2.2.2, hk.1.2⟩⟩⟩⟩⟩⟩)⟩
                  have n8_ : Aside0 (Kd.V k79 79 ((w47.setCell ⟨gb174, 0, none⟩ (.slice Ao48 t167.length co48)).setCell ⟨gb174, 1, none⟩ (.slice Ao53 t170.length co53)) w.heap.size (fun k_ => some k_ ≠ (.slice Ao37 t157.length co37 : Value).ownBlock ∧ some k_ ≠ (.slice Ao41 t160.length co41 : Value).ownBlock ∧ some k_ ≠ (.slice Ao45 y164.length co45 : Value).ownBlock ∧ k_ ≠ gb145 ∧ k_ ≠ gb154 ∧ k_ ≠ gb163 ∧ k_ ≠ gb174) (.slice Ao53 t170.length co53) t170) := ⟨by (with_reducible repeat (first | apply Kd.V_alloc | apply Kd.V_drewN | apply Kd.V_drew)); exact Kd.V_mono (Kd.V_far (p := ⟨gb174, 1, none⟩) (Kd.V_far (p := ⟨gb174, 0, none⟩) (Kd.V_mono HO172.out (fun k_ hk => (⟨hk, hk.2⟩ : _ ∧ k_ ≠ gb174))) (fun _ hk => hk.2) (.slice Ao48 t167.length co48)) (fun _ hk => hk.2) (.slice Ao53 t170.length co53)) (fun _ hk => ⟨hk.1.1.1, ⟨hk.1.1.2.1, ⟨hk.1.1.2.2.1, ⟨hk.1.1.2.2.2.1, ⟨hk.1.1.2.2.2.2.1, ⟨hk.1.1.2.2.2.2.2, hk.1.2⟩⟩⟩⟩⟩⟩)⟩
                  have n9_ : Aside0 (((w47.setCell ⟨gb174, 0, none⟩ (.slice Ao48 t167.length co48)).setCell ⟨gb174, 1, none⟩ (.slice Ao53 t170.length co53)).heap[gb145]? = some (.cells #[.slice Ao22 t138.length co22, .slice Ao24 t141.length co24] 63 (0, 0))) := ⟨by (with_reducible repeat (first | refine blk_drewN ?_ _ | refine blk_drew ?_ | refine blk_alloc ?_ _)); refine blk_far ?_ NB145_174.out _; (with_reducible repeat (first | refine blk_drewN ?_ _ | refine blk_drew ?_ | refine blk_alloc ?_ _)); refine blk_far ?_ NB145_174.out _; (with_reducible repeat (first | refine blk_drewN ?_ _ | refine blk_drew ?_ | refine blk_alloc ?_ _)); exact BK145.out⟩
                  have n10_ : Aside0 (((w47.setCell ⟨gb174, 0, none⟩ (.slice Ao48 t167.length co48)).setCell ⟨gb174, 1, none⟩ (.slice Ao53 t170.length co53)).heap[gb154]? = some (.cells #[.slice Ao29 t147.length co29, .slice Ao32 t150.length co32] 63 (0, 0))) := ⟨by (with_reducible repeat (first | refine blk_drewN ?_ _ | refine blk_drew ?_ | refine blk_alloc ?_ _)); refine blk_far ?_ NB154_174.out _; (with_reducible repeat (first | refine blk_drewN ?_ _ | refine blk_drew ?_ | refine blk_alloc ?_ _)); refine blk_far ?_ NB154_174.out _; (with_reducible repeat (first | refine blk_drewN ?_ _ | refine blk_drew ?_ | refine blk_alloc ?_ _)); exact BK154.out⟩
                  have n11_ : Aside0 (((w47.setCell ⟨gb174, 0, none⟩ (.slice Ao48 t167.length co48)).setCell ⟨gb174, 1, none⟩ (.slice Ao53 t170.length co53)).heap[gb163]? = some (.cells #[.slice Ao37 t157.length co37, .slice Ao41 t160.length co41] 63 (0, 0))) := ⟨by (with_reducible repeat (first | refine blk_drewN ?_ _ | refine blk_drew ?_ | refine blk_alloc ?_ _)); refine blk_far ?_ NB163_174.out _; (with_reducible repeat (first | refine blk_drewN ?_ _ | refine blk_drew ?_ | refine blk_alloc ?_ _)); refine blk_far ?_ NB163_174.out _; (with_reducible repeat (first | refine blk_drewN ?_ _ | refine blk_drew ?_ | refine blk_alloc ?_ _)); exact BK163.out⟩
                  have n12_ : Aside0 (((w47.setCell ⟨gb174, 0, none⟩ (.slice Ao48 t167.length co48)).setCell ⟨gb174, 1, none⟩ (.slice Ao53 t170.length co53)).heap[gb174]? = some (.cells #[.slice Ao48 t167.length co48, .slice Ao53 t170.length co53] 63 (0, 0))) := ⟨by (with_reducible repeat (first | refine blk_drewN ?_ _ | refine blk_drew ?_ | refine blk_alloc ?_ _)); refine blk_put (cs := #[.slice Ao48 t167.length co48, .slice none 0 0]) ?_ 1 _ rfl; (with_reducible repeat (first | refine blk_drewN ?_ _ | refine blk_drew ?_ | refine blk_alloc ?_ _)); refine blk_put (cs := #[.slice none 0 0, .slice none 0 0]) ?_ 0 _ rfl; (with_reducible repeat (first | refine blk_drewN ?_ _ | refine blk_drew ?_ | refine blk_alloc ?_ _)); exact BK174.out⟩
                  have n13_ : Aside0 (Below w.heap.size w ((w47.setCell ⟨gb174, 0, none⟩ (.slice Ao48 t167.length co48)).setCell ⟨gb174, 1, none⟩ (.slice Ao53 t170.length co53))) := ⟨by repeat (first | (with_reducible first | exact HB.out | apply below_alloc | apply pw_below_drewN | apply below_drew1 | refine below_set ?_ GE145.out | refine below_set ?_ GE154.out | refine below_set ?_ GE163.out | refine below_set ?_ GE174.out) | exact HB.out)⟩
                  (try clear HO140)
                  (try clear HO143)
                  (try clear HO149)
                  (try clear HO152)
                  (try clear HO159)
                  (try clear HO162)
                  (try clear HO166)
                  (try clear HO169)
                  (try clear HO172)
                  (try clear BK145)
                  (try clear BK154)
                  (try clear BK163)
                  (try clear BK174)
                  (try clear HB)
                  generalize ((w47.setCell ⟨gb174, 0, none⟩ (.slice Ao48 t167.length co48)).setCell ⟨gb174, 1, none⟩ (.slice Ao53 t170.length co53)) = w54 at n0_ n1_ n2_ n3_ n4_ n5_ n6_ n7_ n8_ n9_ n10_ n11_ n12_ n13_ ⊢
                  have HO140 := n0_
                  have HO143 := n1_
                  have HO149 := n2_
                  have HO152 := n3_
                  have HO159 := n4_
                  have HO162 := n5_
                  have HO166 := n6_
                  have HO169 := n7_
                  have HO172 := n8_
                  have BK145 := n9_
                  have BK154 := n10_
                  have BK163 := n11_
                  have BK174 := n12_
                  have HB := n13_
                  clear n0_ n1_ n2_ n3_ n4_ n5_ n6_ n7_ n8_ n9_ n10_ n11_ n12_ n13_
                  have n0_ := Aside0.mk (Kd.R_drew HO140.out)
                  have n1_ := Aside0.mk (Kd.R_drew HO143.out)
                  have n2_ := Aside0.mk (Kd.V_drew HO149.out)
                  have n3_ := Aside0.mk (Kd.V_drew HO152.out)
                  have n4_ := Aside0.mk (Kd.R_drew HO159.out)
                  have n5_ := Aside0.mk (Kd.R_drew HO162.out)
                  have n6_ := Aside0.mk (Kd.R_drew HO166.out)
                  have n7_ := Aside0.mk (Kd.V_drew HO169.out)
                  have n8_ := Aside0.mk (Kd.V_drew HO172.out)
                  have n9_ := Aside0.mk (blk_drew BK145.out)
                  have n10_ := Aside0.mk (blk_drew BK154.out)
                  have n11_ := Aside0.mk (blk_drew BK163.out)
                  have n12_ := Aside0.mk (blk_drew BK174.out)
                  have n13_ := Aside0.mk (below_drew1 HB.out)
                  clear HO140
                  clear HO143
                  clear HO149
                  clear HO152
                  clear HO159
                  clear HO162
                  clear HO166
                  clear HO169
                  clear HO172
                  clear BK145
                  clear BK154
                  clear BK163
                  clear BK174
                  clear HB
                  have HO140 := n0_
                  have HO143 := n1_
                  have HO149 := n2_
                  have HO152 := n3_
                  have HO159 := n4_
                  have HO162 := n5_
                  have HO166 := n6_
                  have HO169 := n7_
                  have HO172 := n8_
                  have BK145 := n9_
                  have BK154 := n10_
                  have BK163 := n11_
                  have BK174 := n12_
                  have HB := n13_
                  clear n0_ n1_ n2_ n3_ n4_ n5_ n6_ n7_ n8_ n9_ n10_ n11_ n12_ n13_
                  refine start_ (n := 41) (S := fun w' => w'.cell? ⟨gb163, 0, none⟩ = some (.slice Ao37 t157.length co37) ∧ w'.cell? ⟨gb163, 1, none⟩ = some (.slice Ao41 t160.length co41) ∧ w'.cell? ⟨gb145, 0, none⟩ = some (.slice Ao22 t138.length co22) ∧ w'.cell? ⟨gb145, 1, none⟩ = some (.slice Ao24 t141.length co24) ∧ w'.cell? ⟨gb174, 0, none⟩ = some (.slice Ao48 t167.length co48) ∧ w'.cell? ⟨gb174, 1, none⟩ = some (.slice Ao53 t170.length co53) ∧ w'.cell? ⟨gb154, 0, none⟩ = some (.slice Ao29 t147.length co29) ∧ w'.cell? ⟨gb154, 1, none⟩ = some (.slice Ao32 t150.length co32)) (ds := []) #[false, false, false, false, false, false, false, false, false, false, false, false, false, false, false, false, false, false, false, false, false, false, false, false, false, false, false, false, false, false, false, false, false, false, false, false, false, false, false, false, false] (by kernel_rfl) rfl rfl ⟨(blk_cell BK163.out 0).trans rfl, (blk_cell BK163.out 1).trans rfl, (blk_cell BK145.out 0).trans rfl, (blk_cell BK145.out 1).trans rfl, (blk_cell BK174.out 0).trans rfl, (blk_cell BK174.out 1).trans rfl, (blk_cell BK154.out 0).trans rfl, (blk_cell BK154.out 1).trans rfl⟩ (fun hHeld => ?_); refine with_tabW assartlaw02_shown.tab7 assartlaw02_shown.bits7 (fun HT_ HW_ => ?_)
                  generalize w54.drew = w55 at HO140 HO143 HO149 HO152 HO159 HO162 HO166 HO169 HO172 BK145 BK154 BK163 BK174 HB hHeld ⊢
                  refine pure_ (i := 0) (N := some 40) (v := ?_) (a' := ?_) #[true, false, false, false, false, false, false, false, false, false, false, false, false, false, false, false, false, false, false, false, false, false, false, false, false, false, false, false, false, false, false, false, false, false, false, false, false, false, false, false, false] rfl rfl (any_of HT_.out (by kernel_rfl)) (fun _ _ _ h => h) (Or.inl ⟨by rfl, ?_⟩) ?_ ?_
                  rotate_left
                  · intro w'
                    go_simp
                    with_reducible rfl
                  rotate_left
                  · simp only [Act.put, List.setIfInBounds_toArray, List.set_cons_zero, List.set_cons_succ, i64_w, i32_w]
                    rfl
                  refine pure_ (i := 1) (N := some 41) (v := ?_) (a' := ?_) #[true, true, false, false, false, false, false, false, false, false, false, false, false, false, false, false, false, false, false, false, false, false, false, false, false, false, false, false, false, false, false, false, false, false, false, false, false, false, false, false, false] rfl rfl (any_of HT_.out (by kernel_rfl)) (fun _ _ _ h => h) (Or.inl ⟨by rfl, ?_⟩) ?_ ?_
                  rotate_left
                  · intro w'
                    go_simp
                    with_reducible rfl
                  rotate_left
                  · simp only [Act.put, List.setIfInBounds_toArray, List.set_cons_zero, List.set_cons_succ, i64_w, i32_w]
                    rfl
                  refine pure_ (i := 2) (N := some 42) (v := ?_) (a' := ?_) #[true, true, true, false, false, false, false, false, false, false, false, false, false, false, false, false, false, false, false, false, false, false, false, false, false, false, false, false, false, false, false, false, false, false, false, false, false, false, false, false, false] rfl rfl (any_of HT_.out (by kernel_rfl)) (fun _ _ _ h => h) (Or.inl ⟨by rfl, ?_⟩) ?_ ?_
                  rotate_left
                  · intro w'
                    go_simp
                    with_reducible rfl
                  rotate_left
                  · simp only [Act.put, List.setIfInBounds_toArray, List.set_cons_zero, List.set_cons_succ, i64_w, i32_w]
                    rfl
                  refine pure_ (i := 3) (N := some 43) (v := ?_) (a' := ?_) #[true, true, true, true, false, false, false, false, false, false, false, false, false, false, false, false, false, false, false, false, false, false, false, false, false, false, false, false, false, false, false, false, false, false, false, false, false, false, false, false, false] rfl rfl (any_of HT_.out (by kernel_rfl)) (fun _ _ _ h => h) (Or.inl ⟨by rfl, ?_⟩) ?_ ?_
                  rotate_left
                  · intro w'
                    go_simp
                    with_reducible rfl
                  rotate_left
                  · simp only [Act.put, List.setIfInBounds_toArray, List.set_cons_zero, List.set_cons_succ, i64_w, i32_w]
                    rfl
                  refine pure_ (i := 4) (N := some 44) (v := ?_) (a' := ?_) #[true, true, true, true, true, false, false, false, false, false, false, false, false, false, false, false, false, false, false, false, false, false, false, false, false, false, false, false, false, false, false, false, false, false, false, false, false, false, false, false, false] rfl rfl (any_of HT_.out (by kernel_rfl)) (fun _ _ _ h => h) (Or.inl ⟨by rfl, ?_⟩) ?_ ?_
                  rotate_left
                  · intro w'
                    go_simp
                    with_reducible rfl
                  rotate_left
                  · simp only [Act.put, List.setIfInBounds_toArray, List.set_cons_zero, List.set_cons_succ, i64_w, i32_w]
                    rfl
                  refine pure_ (i := 5) (N := some 45) (v := ?_) (a' := ?_) #[true, true, true, true, true, true, false, false, false, false, false, false, false, false, false, false, false, false, false, false, false, false, false, false, false, false, false, false, false, false, false, false, false, false, false, false, false, false, false, false, false] rfl rfl (any_of HT_.out (by kernel_rfl)) (fun _ _ _ h => h) (Or.inl ⟨by rfl, ?_⟩) ?_ ?_
                  rotate_left
                  · intro w'
                    go_simp
                    with_reducible rfl
                  rotate_left
                  · simp only [Act.put, List.setIfInBounds_toArray, List.set_cons_zero, List.set_cons_succ, i64_w, i32_w]
                    rfl
                  refine pure_ (i := 6) (N := some 46) (v := ?_) (a' := ?_) #[true, true, true, true, true, true, true, false, false, false, false, false, false, false, false, false, false, false, false, false, false, false, false, false, false, false, false, false, false, false, false, false, false, false, false, false, false, false, false, false, false] rfl rfl (any_of HT_.out (by kernel_rfl)) (fun _ _ _ h => h) (Or.inl ⟨by rfl, ?_⟩) ?_ ?_
                  rotate_left
                  · intro w'
                    go_simp
                    with_reducible rfl
                  rotate_left
                  · simp only [Act.put, List.setIfInBounds_toArray, List.set_cons_zero, List.set_cons_succ, i64_w, i32_w]
                    rfl
                  refine pure_ (i := 7) (N := some 47) (v := ?_) (a' := ?_) #[true, true, true, true, true, true, true, true, false, false, false, false, false, false, false, false, false, false, false, false, false, false, false, false, false, false, false, false, false, false, false, false, false, false, false, false, false, false, false, false, false] rfl rfl (any_of HT_.out (by kernel_rfl)) (fun _ _ _ h => h) (Or.inl ⟨by rfl, ?_⟩) ?_ ?_
                  rotate_left
                  · intro w'
                    go_simp
                    with_reducible rfl
                  rotate_left
                  · simp only [Act.put, List.setIfInBounds_toArray, List.set_cons_zero, List.set_cons_succ, i64_w, i32_w]
                    rfl
                  refine pure_ (i := 8) (N := some 48) (v := ?_) (a' := ?_) #[true, true, true, true, true, true, true, true, true, false, false, false, false, false, false, false, false, false, false, false, false, false, false, false, false, false, false, false, false, false, false, false, false, false, false, false, false, false, false, false, false] rfl rfl (any_of HT_.out (by kernel_rfl)) (fun _ _ _ h => h) (Or.inl ⟨by rfl, ?_⟩) ?_ ?_
                  rotate_left
                  · intro w'
                    go_simp
                    with_reducible rfl
                  rotate_left
                  · simp only [Act.put, List.setIfInBounds_toArray, List.set_cons_zero, List.set_cons_succ, i64_w, i32_w]
                    rfl
                  refine pure_ (i := 9) (N := some 49) (v := ?_) (a' := ?_) #[true, true, true, true, true, true, true, true, true, true, false, false, false, false, false, false, false, false, false, false, false, false, false, false, false, false, false, false, false, false, false, false, false, false, false, false, false, false, false, false, false] rfl rfl (any_of HT_.out (by kernel_rfl)) (fun _ _ _ h => h) (Or.inl ⟨by rfl, ?_⟩) ?_ ?_
                  rotate_left
                  · intro w'
                    go_simp
                    with_reducible rfl
                  rotate_left
                  · simp only [Act.put, List.setIfInBounds_toArray, List.set_cons_zero, List.set_cons_succ, i64_w, i32_w]
                    rfl
                  refine pure_ (i := 10) (N := some 50) (v := ?_) (a' := ?_) #[true, true, true, true, true, true, true, true, true, true, true, false, false, false, false, false, false, false, false, false, false, false, false, false, false, false, false, false, false, false, false, false, false, false, false, false, false, false, false, false, false] rfl rfl (any_of HT_.out (by kernel_rfl)) (fun _ _ _ h => h) (Or.inl ⟨by rfl, ?_⟩) ?_ ?_
                  rotate_left
                  · intro w'
                    go_simp
                    with_reducible rfl
                  rotate_left
                  · simp only [Act.put, List.setIfInBounds_toArray, List.set_cons_zero, List.set_cons_succ, i64_w, i32_w]
                    rfl
                  refine pure_ (i := 11) (N := some 51) (v := ?_) (a' := ?_) #[true, true, true, true, true, true, true, true, true, true, true, true, false, false, false, false, false, false, false, false, false, false, false, false, false, false, false, false, false, false, false, false, false, false, false, false, false, false, false, false, false] rfl rfl (any_of HT_.out (by kernel_rfl)) (fun _ _ _ h => h) (Or.inl ⟨by rfl, ?_⟩) ?_ ?_
                  rotate_left
                  · intro w'
                    go_simp
                    with_reducible rfl
                  rotate_left
                  · simp only [Act.put, List.setIfInBounds_toArray, List.set_cons_zero, List.set_cons_succ, i64_w, i32_w]
                    rfl
                  refine pure_ (i := 12) (N := some 52) (v := ?_) (a' := ?_) #[true, true, true, true, true, true, true, true, true, true, true, true, true, false, false, false, false, false, false, false, false, false, false, false, false, false, false, false, false, false, false, false, false, false, false, false, false, false, false, false, false] rfl rfl (any_of HT_.out (by kernel_rfl)) (fun _ _ _ h => h) (Or.inl ⟨by rfl, ?_⟩) ?_ ?_
                  rotate_left
                  · intro w'
                    go_simp
                    with_reducible rfl
                  rotate_left
                  · simp only [Act.put, List.setIfInBounds_toArray, List.set_cons_zero, List.set_cons_succ, i64_w, i32_w]
                    rfl
                  refine pure_ (i := 13) (N := some 53) (v := ?_) (a' := ?_) #[true, true, true, true, true, true, true, true, true, true, true, true, true, true, false, false, false, false, false, false, false, false, false, false, false, false, false, false, false, false, false, false, false, false, false, false, false, false, false, false, false] rfl rfl (any_of HT_.out (by kernel_rfl)) (fun _ _ _ h => h) (Or.inl ⟨by rfl, ?_⟩) ?_ ?_
                  rotate_left
                  · intro w'
                    go_simp
                    with_reducible rfl
                  rotate_left
                  · simp only [Act.put, List.setIfInBounds_toArray, List.set_cons_zero, List.set_cons_succ, i64_w, i32_w]
                    rfl
                  refine pure_ (i := 14) (N := some 54) (v := ?_) (a' := ?_) #[true, true, true, true, true, true, true, true, true, true, true, true, true, true, true, false, false, false, false, false, false, false, false, false, false, false, false, false, false, false, false, false, false, false, false, false, false, false, false, false, false] rfl rfl (any_of HT_.out (by kernel_rfl)) (fun _ _ _ h => h) (Or.inl ⟨by rfl, ?_⟩) ?_ ?_
                  rotate_left
                  · intro w'
                    go_simp
                    with_reducible rfl
                  rotate_left
                  · simp only [Act.put, List.setIfInBounds_toArray, List.set_cons_zero, List.set_cons_succ, i64_w, i32_w]
                    rfl
                  refine pure_ (i := 15) (N := some 55) (v := ?_) (a' := ?_) #[true, true, true, true, true, true, true, true, true, true, true, true, true, true, true, true, false, false, false, false, false, false, false, false, false, false, false, false, false, false, false, false, false, false, false, false, false, false, false, false, false] rfl rfl (any_of HT_.out (by kernel_rfl)) (fun _ _ _ h => h) (Or.inl ⟨by rfl, ?_⟩) ?_ ?_
                  rotate_left
                  · intro w'
                    go_simp
                    with_reducible rfl
                  rotate_left
                  · simp only [Act.put, List.setIfInBounds_toArray, List.set_cons_zero, List.set_cons_succ, i64_w, i32_w]
                    rfl
                  refine take_ (i := 16) (N := some 56) (v := ?_) (a' := ?_) #[true, true, true, true, true, true, true, true, true, true, true, true, true, true, true, true, true, false, false, false, false, false, false, false, false, false, false, false, false, false, false, false, false, false, false, false, false, false, false, false, false] rfl rfl (take_ofW HT_.out HW_.out (by kernel_rfl)) (fun _ _ _ h => h) (Or.inl ⟨by rfl, ?_⟩) hHeld ?_ ?_
                  rotate_left
                  · rintro w' ⟨s0, s1, s2, s3, s4, s5, s6, s7⟩
                    go_simp
                    with_reducible rfl
                  rotate_left
                  · simp only [Act.put, List.setIfInBounds_toArray, List.set_cons_zero, List.set_cons_succ, i64_w, i32_w]
                    rfl
                  refine take_ (i := 17) (N := some 57) (v := ?_) (a' := ?_) #[true, true, true, true, true, true, true, true, true, true, true, true, true, true, true, true, true, true, false, false, false, false, false, false, false, false, false, false, false, false, false, false, false, false, false, false, false, false, false, false, false] rfl rfl (take_ofW HT_.out HW_.out (by kernel_rfl)) (fun _ _ _ h => h) (Or.inl ⟨by rfl, ?_⟩) hHeld ?_ ?_
                  rotate_left
                  · rintro w' ⟨s0, s1, s2, s3, s4, s5, s6, s7⟩
                    go_simp
                    with_reducible rfl
                  rotate_left
                  · simp only [Act.put, List.setIfInBounds_toArray, List.set_cons_zero, List.set_cons_succ, i64_w, i32_w]
                    rfl
                  refine one_ (i := 18) (N := some 58) #[true, true, true, true, true, true, true, true, true, true, true, true, true, true, true, true, true, true, true, false, false, false, false, false, false, false, false, false, false, false, false, false, false, false, false, false, false, false, false, false, false] rfl rfl (one_of HT_.out (by kernel_rfl)) (by decide) (fun K hK => ?_)
                  refine goes_ Try.func42 (by kernel_rfl) rfl #[.agg #[.slice Ao37 t157.length co37, .slice Ao41 t160.length co41], .agg #[.slice Ao22 t138.length co22, .slice Ao24 t141.length co24]] (by rfl) rfl rfl (by (try simp only [List.map_toArray, List.map_cons, List.map_nil]); first | done | rfl | (simp only [List.length_drop, List.length_take]; rfl)) ?_
                  with_reducible refine (disk_Same.calls k _ _ t157 _ _ t160 _ _ t138 _ _ t141 true _ ?side1 ?side2 ?side3 ?side4 ?side5 ?side6 ?side7 ?side8 A11.out).mono ?_
                  (case side1 => repeat (first | exact (Kd.R_reads' HO159.out).2.2 | (with_reducible refine Kd.C_alloc ?_ _) | (with_reducible refine Kd.C_drewN ?_ _) | (with_reducible refine Kd.C_drew ?_)))
                  (case side2 => exact (Kd.R_reads' HO159.out).2.1)
                  (case side3 => repeat (first | exact (Kd.R_reads' HO162.out).2.2 | (with_reducible refine Kd.C_alloc ?_ _) | (with_reducible refine Kd.C_drewN ?_ _) | (with_reducible refine Kd.C_drew ?_)))
                  (case side4 => exact (Kd.R_reads' HO162.out).2.1)
                  (case side5 => repeat (first | exact (Kd.R_reads' HO140.out).2.2 | (with_reducible refine Kd.C_alloc ?_ _) | (with_reducible refine Kd.C_drewN ?_ _) | (with_reducible refine Kd.C_drew ?_)))
                  (case side6 => exact (Kd.R_reads' HO140.out).2.1)
                  (case side7 => repeat (first | exact (Kd.R_reads' HO143.out).2.2 | (with_reducible refine Kd.C_alloc ?_ _) | (with_reducible refine Kd.C_drewN ?_ _) | (with_reducible refine Kd.C_drew ?_)))
                  (case side8 => exact (Kd.R_reads' HO143.out).2.1)
                  rintro e w56 ⟨rfl, hb⟩
                  refine ⟨_, rfl, ?_⟩
                  have n0_ := Aside0.mk (Kd.R_below (by (with_reducible repeat (first | apply Kd.R_alloc | apply Kd.R_drewN | apply Kd.R_drew)); exact HO140.out) hb)
                  have n1_ := Aside0.mk (Kd.R_below (by (with_reducible repeat (first | apply Kd.R_alloc | apply Kd.R_drewN | apply Kd.R_drew)); exact HO143.out) hb)
                  have n2_ := Aside0.mk (Kd.V_below (by (with_reducible repeat (first | apply Kd.V_alloc | apply Kd.V_drewN | apply Kd.V_drew)); exact HO149.out) hb)
                  have n3_ := Aside0.mk (Kd.V_below (by (with_reducible repeat (first | apply Kd.V_alloc | apply Kd.V_drewN | apply Kd.V_drew)); exact HO152.out) hb)
                  have n4_ := Aside0.mk (Kd.R_below (by (with_reducible repeat (first | apply Kd.R_alloc | apply Kd.R_drewN | apply Kd.R_drew)); exact HO159.out) hb)
                  have n5_ := Aside0.mk (Kd.R_below (by (with_reducible repeat (first | apply Kd.R_alloc | apply Kd.R_drewN | apply Kd.R_drew)); exact HO162.out) hb)
                  have n6_ := Aside0.mk (Kd.R_below (by (with_reducible repeat (first | apply Kd.R_alloc | apply Kd.R_drewN | apply Kd.R_drew)); exact HO166.out) hb)
                  have n7_ := Aside0.mk (Kd.V_below (by (with_reducible repeat (first | apply Kd.V_alloc | apply Kd.V_drewN | apply Kd.V_drew)); exact HO169.out) hb)
                  have n8_ := Aside0.mk (Kd.V_below (by (with_reducible repeat (first | apply Kd.V_alloc | apply Kd.V_drewN | apply Kd.V_drew)); exact HO172.out) hb)
                  have n9_ := Aside0.mk (blk_below (g := gb145) (o := .cells #[.slice Ao22 t138.length co22, .slice Ao24 t141.length co24] 63 (0, 0)) (by (with_reducible repeat (first | refine blk_drewN ?_ _ | refine blk_drew ?_ | refine blk_alloc ?_ _)); exact BK145.out) hb)
                  have n10_ := Aside0.mk (blk_below (g := gb154) (o := .cells #[.slice Ao29 t147.length co29, .slice Ao32 t150.length co32] 63 (0, 0)) (by (with_reducible repeat (first | refine blk_drewN ?_ _ | refine blk_drew ?_ | refine blk_alloc ?_ _)); exact BK154.out) hb)
                  have n11_ := Aside0.mk (blk_below (g := gb163) (o := .cells #[.slice Ao37 t157.length co37, .slice Ao41 t160.length co41] 63 (0, 0)) (by (with_reducible repeat (first | refine blk_drewN ?_ _ | refine blk_drew ?_ | refine blk_alloc ?_ _)); exact BK163.out) hb)
                  have n12_ := Aside0.mk (blk_below (g := gb174) (o := .cells #[.slice Ao48 t167.length co48, .slice Ao53 t170.length co53] 63 (0, 0)) (by (with_reducible repeat (first | refine blk_drewN ?_ _ | refine blk_drew ?_ | refine blk_alloc ?_ _)); exact BK174.out) hb)
                  have n13_ := Aside0.mk (below_step (by repeat (first | (with_reducible first | exact HB.out | apply below_alloc | apply pw_below_drewN | apply below_drew1 | refine below_set ?_ GE145.out | refine below_set ?_ GE154.out | refine below_set ?_ GE163.out | refine below_set ?_ GE174.out) | exact HB.out)) hb)
                  clear HO140
                  clear HO143
                  clear HO149
                  clear HO152
                  clear HO159
                  clear HO162
                  clear HO166
                  clear HO169
                  clear HO172
                  clear BK145
                  clear BK154
                  clear BK163
                  clear BK174
                  clear HB
                  have HO140 := n0_
                  have HO143 := n1_
                  have HO149 := n2_
                  have HO152 := n3_
                  have HO159 := n4_
                  have HO162 := n5_
                  have HO166 := n6_
                  have HO169 := n7_
                  have HO172 := n8_
                  have BK145 := n9_
                  have BK154 := n10_
                  have BK163 := n11_
                  have BK174 := n12_
                  have HB := n13_
                  clear n0_ n1_ n2_ n3_ n4_ n5_ n6_ n7_ n8_ n9_ n10_ n11_ n12_ n13_
                  (try clear hb)
                  (try clear hb2)
                  (try clear hk)
                  (try clear hi)
                  refine hK.out _ _ ⟨(blk_cell BK163.out 0).trans rfl, (blk_cell BK163.out 1).trans rfl, (blk_cell BK145.out 0).trans rfl, (blk_cell BK145.out 1).trans rfl, (blk_cell BK174.out 0).trans rfl, (blk_cell BK174.out 1).trans rfl, (blk_cell BK154.out 0).trans rfl, (blk_cell BK154.out 1).trans rfl⟩ (fun hHeld => ?_)
                  clear hK K
                  refine norm_ (a' := ?_) ?_ ?_
                  rotate_left
                  · show Act.put _ (some 58) _ = _
                    simp only [Act.put, List.setIfInBounds_toArray, List.set_cons_zero, List.set_cons_succ, i64_w, i32_w]
                    rfl
                  refine pure_ (i := 19) (N := some 59) (v := ?_) (a' := ?_) #[true, true, true, true, true, true, true, true, true, true, true, true, true, true, true, true, true, true, true, true, false, false, false, false, false, false, false, false, false, false, false, false, false, false, false, false, false, false, false, false, false] rfl rfl (any_of HT_.out (by kernel_rfl)) (fun _ _ _ h => h) (Or.inl ⟨by rfl, ?_⟩) ?_ ?_
                  rotate_left
                  · intro w'
                    go_simp
                    with_reducible rfl
                  rotate_left
                  · simp only [Act.put, List.setIfInBounds_toArray, List.set_cons_zero, List.set_cons_succ, i64_w, i32_w]
                    rfl
                  refine pure_ (i := 20) (N := some 60) (v := ?_) (a' := ?_) #[true, true, true, true, true, true, true, true, true, true, true, true, true, true, true, true, true, true, true, true, true, false, false, false, false, false, false, false, false, false, false, false, false, false, false, false, false, false, false, false, false] rfl rfl (any_of HT_.out (by kernel_rfl)) (fun _ _ _ h => h) (Or.inl ⟨by rfl, ?_⟩) ?_ ?_
                  rotate_left
                  · intro w'
                    go_simp
                    with_reducible rfl
                  rotate_left
                  · simp only [Act.put, List.setIfInBounds_toArray, List.set_cons_zero, List.set_cons_succ, i64_w, i32_w]
                    rfl
                  refine pure_ (i := 21) (N := some 61) (v := ?_) (a' := ?_) #[true, true, true, true, true, true, true, true, true, true, true, true, true, true, true, true, true, true, true, true, true, true, false, false, false, false, false, false, false, false, false, false, false, false, false, false, false, false, false, false, false] rfl rfl (any_of HT_.out (by kernel_rfl)) (fun _ _ _ h => h) (Or.inl ⟨by rfl, ?_⟩) ?_ ?_
                  rotate_left
                  · intro w'
                    go_simp
                    with_reducible rfl
                  rotate_left
                  · simp only [Act.put, List.setIfInBounds_toArray, List.set_cons_zero, List.set_cons_succ, i64_w, i32_w]
                    rfl
                  refine pure_ (i := 22) (N := some 62) (v := ?_) (a' := ?_) #[true, true, true, true, true, true, true, true, true, true, true, true, true, true, true, true, true, true, true, true, true, true, true, false, false, false, false, false, false, false, false, false, false, false, false, false, false, false, false, false, false] rfl rfl (any_of HT_.out (by kernel_rfl)) (fun _ _ _ h => h) (Or.inl ⟨by rfl, ?_⟩) ?_ ?_
                  rotate_left
                  · intro w'
                    go_simp
                    with_reducible rfl
                  rotate_left
                  · simp only [Act.put, List.setIfInBounds_toArray, List.set_cons_zero, List.set_cons_succ, i64_w, i32_w]
                    rfl
                  refine pure_ (i := 23) (N := some 63) (v := ?_) (a' := ?_) #[true, true, true, true, true, true, true, true, true, true, true, true, true, true, true, true, true, true, true, true, true, true, true, true, false, false, false, false, false, false, false, false, false, false, false, false, false, false, false, false, false] rfl rfl (any_of HT_.out (by kernel_rfl)) (fun _ _ _ h => h) (Or.inl ⟨by rfl, ?_⟩) ?_ ?_
                  rotate_left
                  · intro w'
                    go_simp
                    with_reducible rfl
                  rotate_left
                  · simp only [Act.put, List.setIfInBounds_toArray, List.set_cons_zero, List.set_cons_succ, i64_w, i32_w]
                    rfl
                  refine pure_ (i := 24) (N := some 64) (v := ?_) (a' := ?_) #[true, true, true, true, true, true, true, true, true, true, true, true, true, true, true, true, true, true, true, true, true, true, true, true, true, false, false, false, false, false, false, false, false, false, false, false, false, false, false, false, false] rfl rfl (any_of HT_.out (by kernel_rfl)) (fun _ _ _ h => h) (Or.inl ⟨by rfl, ?_⟩) ?_ ?_
                  rotate_left
                  · intro w'
                    go_simp
                    with_reducible rfl
                  rotate_left
                  · simp only [Act.put, List.setIfInBounds_toArray, List.set_cons_zero, List.set_cons_succ, i64_w, i32_w]
                    rfl
                  refine take_ (i := 25) (N := some 65) (v := ?_) (a' := ?_) #[true, true, true, true, true, true, true, true, true, true, true, true, true, true, true, true, true, true, true, true, true, true, true, true, true, true, false, false, false, false, false, false, false, false, false, false, false, false, false, false, false] rfl rfl (take_ofW HT_.out HW_.out (by kernel_rfl)) (fun _ _ _ h => h) (Or.inl ⟨by rfl, ?_⟩) hHeld ?_ ?_
                  rotate_left
                  · rintro w' ⟨s0, s1, s2, s3, s4, s5, s6, s7⟩
                    go_simp
                    with_reducible rfl
                  rotate_left
                  · simp only [Act.put, List.setIfInBounds_toArray, List.set_cons_zero, List.set_cons_succ, i64_w, i32_w]
                    rfl
                  refine take_ (i := 26) (N := some 66) (v := ?_) (a' := ?_) #[true, true, true, true, true, true, true, true, true, true, true, true, true, true, true, true, true, true, true, true, true, true, true, true, true, true, true, false, false, false, false, false, false, false, false, false, false, false, false, false, false] rfl rfl (take_ofW HT_.out HW_.out (by kernel_rfl)) (fun _ _ _ h => h) (Or.inl ⟨by rfl, ?_⟩) hHeld ?_ ?_
                  rotate_left
                  · rintro w' ⟨s0, s1, s2, s3, s4, s5, s6, s7⟩
                    go_simp
                    with_reducible rfl
                  rotate_left
                  · simp only [Act.put, List.setIfInBounds_toArray, List.set_cons_zero, List.set_cons_succ, i64_w, i32_w]
                    rfl
                  refine one_ (i := 27) (N := some 67) #[true, true, true, true, true, true, true, true, true, true, true, true, true, true, true, true, true, true, true, true, true, true, true, true, true, true, true, true, false, false, false, false, false, false, false, false, false, false, false, false, false] rfl rfl (one_of HT_.out (by kernel_rfl)) (by decide) (fun K hK => ?_)
                  refine goes_ Try.func48 (by kernel_rfl) rfl #[.agg #[.slice Ao29 t147.length co29, .slice Ao32 t150.length co32]] (by rfl) rfl rfl (by (try simp only [List.map_toArray, List.map_cons, List.map_nil]); first | done | rfl | (simp only [List.length_drop, List.length_take]; rfl)) ?_
                  with_reducible refine (disk_Flush.calls _ _ t147 _ _ t150 t176 t179 _ ?side1 ?side2 ?side3 ?side4 A14.out).mono ?_
                  (case side1 => repeat (first | exact (Kd.V_reads' HO149.out).2.2 | (with_reducible refine Kd.C_alloc ?_ _) | (with_reducible refine Kd.C_drewN ?_ _) | (with_reducible refine Kd.C_drew ?_)))
                  (case side2 => exact (Kd.V_reads' HO149.out).2.1)
                  (case side3 => repeat (first | exact (Kd.V_reads' HO152.out).2.2 | (with_reducible refine Kd.C_alloc ?_ _) | (with_reducible refine Kd.C_drewN ?_ _) | (with_reducible refine Kd.C_drew ?_)))
                  (case side4 => exact (Kd.V_reads' HO152.out).2.1)
                  rintro e w57 ⟨v177, v180, rfl, ho0, ho1, hb⟩
                  refine ⟨_, rfl, ?_⟩
                  have n0_ := Aside0.mk (Kd.R_elder' (by (with_reducible repeat (first | apply Kd.R_alloc | apply Kd.R_drewN | apply Kd.R_drew)); exact HO140.out) (Kd.R_base ho0) hb)
                  have n1_ := Aside0.mk (Kd.R_elder' (by (with_reducible repeat (first | apply Kd.R_alloc | apply Kd.R_drewN | apply Kd.R_drew)); exact HO143.out) (Kd.R_base ho1) hb)
                  have n2_ := Aside0.mk (Kd.V_mono (Kd.V_told (Kd.V_told (Kd.V_old (by (with_reducible repeat (first | apply Kd.V_alloc | apply Kd.V_drewN | apply Kd.V_drew)); exact HO149.out) hb) (Kd.R_base ho0)) (Kd.R_base ho1)) (fun _ h_ => h_.1))
                  have n3_ := Aside0.mk (Kd.V_mono (Kd.V_told (Kd.V_told (Kd.V_old (by (with_reducible repeat (first | apply Kd.V_alloc | apply Kd.V_drewN | apply Kd.V_drew)); exact HO152.out) hb) (Kd.R_base ho0)) (Kd.R_base ho1)) (fun _ h_ => h_.1))
                  have n4_ := Aside0.mk (Kd.R_elder' (by (with_reducible repeat (first | apply Kd.R_alloc | apply Kd.R_drewN | apply Kd.R_drew)); exact HO159.out) (Kd.R_base ho0) hb)
                  have n5_ := Aside0.mk (Kd.R_elder' (by (with_reducible repeat (first | apply Kd.R_alloc | apply Kd.R_drewN | apply Kd.R_drew)); exact HO162.out) (Kd.R_base ho1) hb)
                  have n6_ := Aside0.mk (Kd.R_elder' (by (with_reducible repeat (first | apply Kd.R_alloc | apply Kd.R_drewN | apply Kd.R_drew)); exact HO166.out) (Kd.R_base ho1) hb)
                  have n7_ := Aside0.mk (Kd.V_mono (Kd.V_told (Kd.V_told (Kd.V_old (by (with_reducible repeat (first | apply Kd.V_alloc | apply Kd.V_drewN | apply Kd.V_drew)); exact HO169.out) hb) (Kd.R_base ho0)) (Kd.R_base ho1)) (fun _ h_ => h_.1))
                  have n8_ := Aside0.mk (Kd.V_mono (Kd.V_told (Kd.V_told (Kd.V_old (by (with_reducible repeat (first | apply Kd.V_alloc | apply Kd.V_drewN | apply Kd.V_drew)); exact HO172.out) hb) (Kd.R_base ho0)) (Kd.R_base ho1)) (fun _ h_ => h_.1))
                  have n9_ := Aside0.mk (Kd.R_lower (Kd.R_new' (Kd.R_new' ho0 (Kd.R_lt (by (with_reducible repeat (first | apply Kd.R_alloc | apply Kd.R_drewN | apply Kd.R_drew)); exact HO140.out))) (Kd.R_lt (by (with_reducible repeat (first | apply Kd.R_alloc | apply Kd.R_drewN | apply Kd.R_drew)); exact HO159.out))) (below_size (by repeat (first | (with_reducible first | exact HB.out | apply below_alloc | apply pw_below_drewN | apply below_drew1 | refine below_set ?_ GE145.out | refine below_set ?_ GE154.out | refine below_set ?_ GE163.out | refine below_set ?_ GE174.out) | exact HB.out))))
                  have n10_ := Aside0.mk (Kd.R_lower (Kd.R_new' (Kd.R_new' (Kd.R_new' ho1 (Kd.R_lt (by (with_reducible repeat (first | apply Kd.R_alloc | apply Kd.R_drewN | apply Kd.R_drew)); exact HO143.out))) (Kd.R_lt (by (with_reducible repeat (first | apply Kd.R_alloc | apply Kd.R_drewN | apply Kd.R_drew)); exact HO162.out))) (Kd.R_lt (by (with_reducible repeat (first | apply Kd.R_alloc | apply Kd.R_drewN | apply Kd.R_drew)); exact HO166.out))) (below_size (by repeat (first | (with_reducible first | exact HB.out | apply below_alloc | apply pw_below_drewN | apply below_drew1 | refine below_set ?_ GE145.out | refine below_set ?_ GE154.out | refine below_set ?_ GE163.out | refine below_set ?_ GE174.out) | exact HB.out))))
                  have n11_ := Aside0.mk (blk_below (g := gb145) (o := .cells #[.slice Ao22 t138.length co22, .slice Ao24 t141.length co24] 63 (0, 0)) (by (with_reducible repeat (first | refine blk_drewN ?_ _ | refine blk_drew ?_ | refine blk_alloc ?_ _)); exact BK145.out) hb)
                  have n12_ := Aside0.mk (blk_below (g := gb154) (o := .cells #[.slice Ao29 t147.length co29, .slice Ao32 t150.length co32] 63 (0, 0)) (by (with_reducible repeat (first | refine blk_drewN ?_ _ | refine blk_drew ?_ | refine blk_alloc ?_ _)); exact BK154.out) hb)
                  have n13_ := Aside0.mk (blk_below (g := gb163) (o := .cells #[.slice Ao37 t157.length co37, .slice Ao41 t160.length co41] 63 (0, 0)) (by (with_reducible repeat (first | refine blk_drewN ?_ _ | refine blk_drew ?_ | refine blk_alloc ?_ _)); exact BK163.out) hb)
                  have n14_ := Aside0.mk (blk_below (g := gb174) (o := .cells #[.slice Ao48 t167.length co48, .slice Ao53 t170.length co53] 63 (0, 0)) (by (with_reducible repeat (first | refine blk_drewN ?_ _ | refine blk_drew ?_ | refine blk_alloc ?_ _)); exact BK174.out) hb)
                  have n15_ := Aside0.mk (below_step (by repeat (first | (with_reducible first | exact HB.out | apply below_alloc | apply pw_below_drewN | apply below_drew1 | refine below_set ?_ GE145.out | refine below_set ?_ GE154.out | refine below_set ?_ GE163.out | refine below_set ?_ GE174.out) | exact HB.out)) hb)
                  clear HO140
                  clear HO143
                  clear HO149
                  clear HO152
                  clear HO159
                  clear HO162
                  clear HO166
                  clear HO169
                  clear HO172
                  clear BK145
                  clear BK154
                  clear BK163
                  clear BK174
                  clear HB
                  have HO140 := n0_
                  have HO143 := n1_
                  have HO149 := n2_
                  have HO152 := n3_
                  have HO159 := n4_
                  have HO162 := n5_
                  have HO166 := n6_
                  have HO169 := n7_
                  have HO172 := n8_
                  have HO178 := n9_
                  have HO181 := n10_
                  have BK145 := n11_
                  have BK154 := n12_
                  have BK163 := n13_
                  have BK174 := n14_
                  have HB := n15_
                  clear n0_ n1_ n2_ n3_ n4_ n5_ n6_ n7_ n8_ n9_ n10_ n11_ n12_ n13_ n14_ n15_
                  (try clear hb)
                  (try clear hb2)
                  (try clear hk)
                  (try clear hi)
                  (try clear ho0)
                  (try clear ho1)
                  obtain ⟨Ao58, co58, eo58⟩ := Kd.R_slice HO178.out
                  (first | subst eo58 | (injection eo58 with f1_ f2_ f3_; have f4_ := f1_.symm; have f5_ := f3_.symm; clear f1_ f2_ f3_; subst f4_; subst f5_))
                  obtain ⟨Ao59, co59, eo59⟩ := Kd.R_slice HO181.out
                  (first | subst eo59 | (injection eo59 with f1_ f2_ f3_; have f4_ := f1_.symm; have f5_ := f3_.symm; clear f1_ f2_ f3_; subst f4_; subst f5_))
                  refine hK.out _ _ ⟨(blk_cell BK163.out 0).trans rfl, (blk_cell BK163.out 1).trans rfl, (blk_cell BK145.out 0).trans rfl, (blk_cell BK145.out 1).trans rfl, (blk_cell BK174.out 0).trans rfl, (blk_cell BK174.out 1).trans rfl, (blk_cell BK154.out 0).trans rfl, (blk_cell BK154.out 1).trans rfl⟩ (fun hHeld => ?_)
                  clear hK K
                  refine norm_ (a' := ?_) ?_ ?_
                  rotate_left
                  · show Act.put _ (some 67) _ = _
                    simp only [Act.put, List.setIfInBounds_toArray, List.set_cons_zero, List.set_cons_succ, i64_w, i32_w]
                    rfl
                  refine one_ (i := 28) (N := some 68) #[true, true, true, true, true, true, true, true, true, true, true, true, true, true, true, true, true, true, true, true, true, true, true, true, true, true, true, true, true, false, false, false, false, false, false, false, false, false, false, false, false] rfl rfl (one_of HT_.out (by kernel_rfl)) (by decide) (fun K hK => ?_)
                  refine goes_ Try.func42 (by kernel_rfl) rfl #[.agg #[.slice Ao48 t167.length co48, .slice Ao53 t170.length co53], .agg #[.slice Ao58 t176.length co58, .slice Ao59 t179.length co59]] (by rfl) rfl rfl (by (try simp only [List.map_toArray, List.map_cons, List.map_nil]); first | done | rfl | (simp only [List.length_drop, List.length_take]; rfl)) ?_
                  with_reducible refine (disk_Same.calls k _ _ t167 _ _ t170 _ _ t176 _ _ t179 true _ ?side1 ?side2 ?side3 ?side4 ?side5 ?side6 ?side7 ?side8 A15.out).mono ?_
                  (case side1 => repeat (first | exact (Kd.V_reads' HO169.out).2.2 | (with_reducible refine Kd.C_alloc ?_ _) | (with_reducible refine Kd.C_drewN ?_ _) | (with_reducible refine Kd.C_drew ?_)))
                  (case side2 => exact (Kd.V_reads' HO169.out).2.1)
                  (case side3 => repeat (first | exact (Kd.V_reads' HO172.out).2.2 | (with_reducible refine Kd.C_alloc ?_ _) | (with_reducible refine Kd.C_drewN ?_ _) | (with_reducible refine Kd.C_drew ?_)))
                  (case side4 => exact (Kd.V_reads' HO172.out).2.1)
                  (case side5 => repeat (first | exact (Kd.R_reads' HO178.out).2.2 | (with_reducible refine Kd.C_alloc ?_ _) | (with_reducible refine Kd.C_drewN ?_ _) | (with_reducible refine Kd.C_drew ?_)))
                  (case side6 => exact (Kd.R_reads' HO178.out).2.1)
                  (case side7 => repeat (first | exact (Kd.R_reads' HO181.out).2.2 | (with_reducible refine Kd.C_alloc ?_ _) | (with_reducible refine Kd.C_drewN ?_ _) | (with_reducible refine Kd.C_drew ?_)))
                  (case side8 => exact (Kd.R_reads' HO181.out).2.1)
                  rintro e w60 ⟨rfl, hb⟩
                  refine ⟨_, rfl, ?_⟩
                  have n0_ := Aside0.mk (Kd.R_below (by (with_reducible repeat (first | apply Kd.R_alloc | apply Kd.R_drewN | apply Kd.R_drew)); exact HO140.out) hb)
                  have n1_ := Aside0.mk (Kd.R_below (by (with_reducible repeat (first | apply Kd.R_alloc | apply Kd.R_drewN | apply Kd.R_drew)); exact HO143.out) hb)
                  have n2_ := Aside0.mk (Kd.V_below (by (with_reducible repeat (first | apply Kd.V_alloc | apply Kd.V_drewN | apply Kd.V_drew)); exact HO149.out) hb)
                  have n3_ := Aside0.mk (Kd.V_below (by (with_reducible repeat (first | apply Kd.V_alloc | apply Kd.V_drewN | apply Kd.V_drew)); exact HO152.out) hb)
                  have n4_ := Aside0.mk (Kd.R_below (by (with_reducible repeat (first | apply Kd.R_alloc | apply Kd.R_drewN | apply Kd.R_drew)); exact HO159.out) hb)
                  have n5_ := Aside0.mk (Kd.R_below (by (with_reducible repeat (first | apply Kd.R_alloc | apply Kd.R_drewN | apply Kd.R_drew)); exact HO162.out) hb)
                  have n6_ := Aside0.mk (Kd.R_below (by (with_reducible repeat (first | apply Kd.R_alloc | apply Kd.R_drewN | apply Kd.R_drew)); exact HO166.out) hb)
                  have n7_ := Aside0.mk (Kd.V_below (by (with_reducible repeat (first | apply Kd.V_alloc | apply Kd.V_drewN | apply Kd.V_drew)); exact HO169.out) hb)
                  have n8_ := Aside0.mk (Kd.V_below (by (with_reducible repeat (first | apply Kd.V_alloc | apply Kd.V_drewN | apply Kd.V_drew)); exact HO172.out) hb)
                  have n9_ := Aside0.mk (Kd.R_below (by (with_reducible repeat (first | apply Kd.R_alloc | apply Kd.R_drewN | apply Kd.R_drew)); exact HO178.out) hb)
                  have n10_ := Aside0.mk (Kd.R_below (by (with_reducible repeat (first | apply Kd.R_alloc | apply Kd.R_drewN | apply Kd.R_drew)); exact HO181.out) hb)
                  have n11_ := Aside0.mk (blk_below (g := gb145) (o := .cells #[.slice Ao22 t138.length co22, .slice Ao24 t141.length co24] 63 (0, 0)) (by (with_reducible repeat (first | refine blk_drewN ?_ _ | refine blk_drew ?_ | refine blk_alloc ?_ _)); exact BK145.out) hb)
                  have n12_ := Aside0.mk (blk_below (g := gb154) (o := .cells #[.slice Ao29 t147.length co29, .slice Ao32 t150.length co32] 63 (0, 0)) (by (with_reducible repeat (first | refine blk_drewN ?_ _ | refine blk_drew ?_ | refine blk_alloc ?_ _)); exact BK154.out) hb)
                  have n13_ := Aside0.mk (blk_below (g := gb163) (o := .cells #[.slice Ao37 t157.length co37, .slice Ao41 t160.length co41] 63 (0, 0)) (by (with_reducible repeat (first | refine blk_drewN ?_ _ | refine blk_drew ?_ | refine blk_alloc ?_ _)); exact BK163.out) hb)
                  have n14_ := Aside0.mk (blk_below (g := gb174) (o := .cells #[.slice Ao48 t167.length co48, .slice Ao53 t170.length co53] 63 (0, 0)) (by (with_reducible repeat (first | refine blk_drewN ?_ _ | refine blk_drew ?_ | refine blk_alloc ?_ _)); exact BK174.out) hb)
                  have n15_ := Aside0.mk (below_step (by repeat (first | (with_reducible first | exact HB.out | apply below_alloc | apply pw_below_drewN | apply below_drew1 | refine below_set ?_ GE145.out | refine below_set ?_ GE154.out | refine below_set ?_ GE163.out | refine below_set ?_ GE174.out) | exact HB.out)) hb)
                  clear HO140
                  clear HO143
                  clear HO149
                  clear HO152
                  clear HO159
                  clear HO162
                  clear HO166
                  clear HO169
                  clear HO172
                  clear HO178
                  clear HO181
                  clear BK145
                  clear BK154
                  clear BK163
                  clear BK174
                  clear HB
                  have HO140 := n0_
                  have HO143 := n1_
                  have HO149 := n2_
                  have HO152 := n3_
                  have HO159 := n4_
                  have HO162 := n5_
                  have HO166 := n6_
                  have HO169 := n7_
                  have HO172 := n8_
                  have HO178 := n9_
                  have HO181 := n10_
                  have BK145 := n11_
                  have BK154 := n12_
                  have BK163 := n13_
                  have BK174 := n14_
                  have HB := n15_
                  clear n0_ n1_ n2_ n3_ n4_ n5_ n6_ n7_ n8_ n9_ n10_ n11_ n12_ n13_ n14_ n15_
                  (try clear hb)
                  (try clear hb2)
                  (try clear hk)
                  (try clear hi)
                  refine hK.out _ _ ⟨(blk_cell BK163.out 0).trans rfl, (blk_cell BK163.out 1).trans rfl, (blk_cell BK145.out 0).trans rfl, (blk_cell BK145.out 1).trans rfl, (blk_cell BK174.out 0).trans rfl, (blk_cell BK174.out 1).trans rfl, (blk_cell BK154.out 0).trans rfl, (blk_cell BK154.out 1).trans rfl⟩ (fun hHeld => ?_)
                  clear hK K
                  refine norm_ (a' := ?_) ?_ ?_
                  rotate_left
                  · show Act.put _ (some 68) _ = _
                    simp only [Act.put, List.setIfInBounds_toArray, List.set_cons_zero, List.set_cons_succ, i64_w, i32_w]
                    rfl
                  refine pure_ (i := 29) (N := some 69) (v := ?_) (a' := ?_) #[true, true, true, true, true, true, true, true, true, true, true, true, true, true, true, true, true, true, true, true, true, true, true, true, true, true, true, true, true, true, false, false, false, false, false, false, false, false, false, false, false] rfl rfl (any_of HT_.out (by kernel_rfl)) (fun _ _ _ h => h) (Or.inl ⟨by rfl, ?_⟩) ?_ ?_
                  rotate_left
                  · intro w'
                    go_simp
                    with_reducible rfl
                  rotate_left
                  · simp only [Act.put, List.setIfInBounds_toArray, List.set_cons_zero, List.set_cons_succ, i64_w, i32_w]
                    rfl
                  refine pure_ (i := 30) (N := some 70) (v := ?_) (a' := ?_) #[true, true, true, true, true, true, true, true, true, true, true, true, true, true, true, true, true, true, true, true, true, true, true, true, true, true, true, true, true, true, true, false, false, false, false, false, false, false, false, false, false] rfl rfl (any_of HT_.out (by kernel_rfl)) (fun _ _ _ h => h) (Or.inl ⟨by rfl, ?_⟩) ?_ ?_
                  rotate_left
                  · intro w'
                    go_simp
                    with_reducible rfl
                  rotate_left
                  · simp only [Act.put, List.setIfInBounds_toArray, List.set_cons_zero, List.set_cons_succ, i64_w, i32_w]
                    rfl
                  refine take_ (i := 31) (N := some 71) (v := ?_) (a' := ?_) #[true, true, true, true, true, true, true, true, true, true, true, true, true, true, true, true, true, true, true, true, true, true, true, true, true, true, true, true, true, true, true, true, false, false, false, false, false, false, false, false, false] rfl rfl (take_ofW HT_.out HW_.out (by kernel_rfl)) (fun _ _ _ h => h) (Or.inl ⟨by rfl, ?_⟩) hHeld ?_ ?_
                  rotate_left
                  · rintro w' ⟨s0, s1, s2, s3, s4, s5, s6, s7⟩
                    go_simp
                    with_reducible rfl
                  rotate_left
                  · simp only [Act.put, List.setIfInBounds_toArray, List.set_cons_zero, List.set_cons_succ, i64_w, i32_w]
                    rfl
                  refine one_ (i := 32) (N := some 72) #[true, true, true, true, true, true, true, true, true, true, true, true, true, true, true, true, true, true, true, true, true, true, true, true, true, true, true, true, true, true, true, true, true, false, false, false, false, false, false, false, false] rfl rfl (one_of HT_.out (by kernel_rfl)) (by decide) (fun K hK => ?_)
                  refine goes_ Try.func39 (by kernel_rfl) rfl #[.agg #[.slice Ao29 t147.length co29, .slice Ao32 t150.length co32]] (by rfl) rfl rfl (by (try simp only [List.map_toArray, List.map_cons, List.map_nil]); first | done | rfl | (simp only [List.length_drop, List.length_take]; rfl)) ?_
                  with_reducible refine (disk_Right.calls _ _ t147 _ _ t150 true _ ?side1 ?side2 ?side3 ?side4 A17.out).mono ?_
                  (case side1 => repeat (first | exact (Kd.V_reads' HO149.out).2.2 | (with_reducible refine Kd.C_alloc ?_ _) | (with_reducible refine Kd.C_drewN ?_ _) | (with_reducible refine Kd.C_drew ?_)))
                  (case side2 => exact (Kd.V_reads' HO149.out).2.1)
                  (case side3 => repeat (first | exact (Kd.V_reads' HO152.out).2.2 | (with_reducible refine Kd.C_alloc ?_ _) | (with_reducible refine Kd.C_drewN ?_ _) | (with_reducible refine Kd.C_drew ?_)))
                  (case side4 => exact (Kd.V_reads' HO152.out).2.1)
                  rintro e w61 ⟨rfl, hb⟩
                  refine ⟨_, rfl, ?_⟩
                  have n0_ := Aside0.mk (Kd.R_below (by (with_reducible repeat (first | apply Kd.R_alloc | apply Kd.R_drewN | apply Kd.R_drew)); exact HO140.out) hb)
                  have n1_ := Aside0.mk (Kd.R_below (by (with_reducible repeat (first | apply Kd.R_alloc | apply Kd.R_drewN | apply Kd.R_drew)); exact HO143.out) hb)
                  have n2_ := Aside0.mk (Kd.V_below (by (with_reducible repeat (first | apply Kd.V_alloc | apply Kd.V_drewN | apply Kd.V_drew)); exact HO149.out) hb)
                  have n3_ := Aside0.mk (Kd.V_below (by (with_reducible repeat (first | apply Kd.V_alloc | apply Kd.V_drewN | apply Kd.V_drew)); exact HO152.out) hb)
                  have n4_ := Aside0.mk (Kd.R_below (by (with_reducible repeat (first | apply Kd.R_alloc | apply Kd.R_drewN | apply Kd.R_drew)); exact HO159.out) hb)
                  have n5_ := Aside0.mk (Kd.R_below (by (with_reducible repeat (first | apply Kd.R_alloc | apply Kd.R_drewN | apply Kd.R_drew)); exact HO162.out) hb)
                  have n6_ := Aside0.mk (Kd.R_below (by (with_reducible repeat (first | apply Kd.R_alloc | apply Kd.R_drewN | apply Kd.R_drew)); exact HO166.out) hb)
                  have n7_ := Aside0.mk (Kd.V_below (by (with_reducible repeat (first | apply Kd.V_alloc | apply Kd.V_drewN | apply Kd.V_drew)); exact HO169.out) hb)
                  have n8_ := Aside0.mk (Kd.V_below (by (with_reducible repeat (first | apply Kd.V_alloc | apply Kd.V_drewN | apply Kd.V_drew)); exact HO172.out) hb)
                  have n9_ := Aside0.mk (Kd.R_below (by (with_reducible repeat (first | apply Kd.R_alloc | apply Kd.R_drewN | apply Kd.R_drew)); exact HO178.out) hb)
                  have n10_ := Aside0.mk (Kd.R_below (by (with_reducible repeat (first | apply Kd.R_alloc | apply Kd.R_drewN | apply Kd.R_drew)); exact HO181.out) hb)
                  have n11_ := Aside0.mk (blk_below (g := gb145) (o := .cells #[.slice Ao22 t138.length co22, .slice Ao24 t141.length co24] 63 (0, 0)) (by (with_reducible repeat (first | refine blk_drewN ?_ _ | refine blk_drew ?_ | refine blk_alloc ?_ _)); exact BK145.out) hb)
                  have n12_ := Aside0.mk (blk_below (g := gb154) (o := .cells #[.slice Ao29 t147.length co29, .slice Ao32 t150.length co32] 63 (0, 0)) (by (with_reducible repeat (first | refine blk_drewN ?_ _ | refine blk_drew ?_ | refine blk_alloc ?_ _)); exact BK154.out) hb)
                  have n13_ := Aside0.mk (blk_below (g := gb163) (o := .cells #[.slice Ao37 t157.length co37, .slice Ao41 t160.length co41] 63 (0, 0)) (by (with_reducible repeat (first | refine blk_drewN ?_ _ | refine blk_drew ?_ | refine blk_alloc ?_ _)); exact BK163.out) hb)
                  have n14_ := Aside0.mk (blk_below (g := gb174) (o := .cells #[.slice Ao48 t167.length co48, .slice Ao53 t170.length co53] 63 (0, 0)) (by (with_reducible repeat (first | refine blk_drewN ?_ _ | refine blk_drew ?_ | refine blk_alloc ?_ _)); exact BK174.out) hb)
                  have n15_ := Aside0.mk (below_step (by repeat (first | (with_reducible first | exact HB.out | apply below_alloc | apply pw_below_drewN | apply below_drew1 | refine below_set ?_ GE145.out | refine below_set ?_ GE154.out | refine below_set ?_ GE163.out | refine below_set ?_ GE174.out) | exact HB.out)) hb)
                  clear HO140
                  clear HO143
                  clear HO149
                  clear HO152
                  clear HO159
                  clear HO162
                  clear HO166
                  clear HO169
                  clear HO172
                  clear HO178
                  clear HO181
                  clear BK145
                  clear BK154
                  clear BK163
                  clear BK174
                  clear HB
                  have HO140 := n0_
                  have HO143 := n1_
                  have HO149 := n2_
                  have HO152 := n3_
                  have HO159 := n4_
                  have HO162 := n5_
                  have HO166 := n6_
                  have HO169 := n7_
                  have HO172 := n8_
                  have HO178 := n9_
                  have HO181 := n10_
                  have BK145 := n11_
                  have BK154 := n12_
                  have BK163 := n13_
                  have BK174 := n14_
                  have HB := n15_
                  clear n0_ n1_ n2_ n3_ n4_ n5_ n6_ n7_ n8_ n9_ n10_ n11_ n12_ n13_ n14_ n15_
                  (try clear hb)
                  (try clear hb2)
                  (try clear hk)
                  (try clear hi)
                  refine hK.out _ _ ⟨(blk_cell BK163.out 0).trans rfl, (blk_cell BK163.out 1).trans rfl, (blk_cell BK145.out 0).trans rfl, (blk_cell BK145.out 1).trans rfl, (blk_cell BK174.out 0).trans rfl, (blk_cell BK174.out 1).trans rfl, (blk_cell BK154.out 0).trans rfl, (blk_cell BK154.out 1).trans rfl⟩ (fun hHeld => ?_)
                  clear hK K
                  refine norm_ (a' := ?_) ?_ ?_
                  rotate_left
                  · show Act.put _ (some 72) _ = _
                    simp only [Act.put, List.setIfInBounds_toArray, List.set_cons_zero, List.set_cons_succ, i64_w, i32_w]
                    rfl
                  refine pure_ (i := 33) (N := some 73) (v := ?_) (a' := ?_) #[true, true, true, true, true, true, true, true, true, true, true, true, true, true, true, true, true, true, true, true, true, true, true, true, true, true, true, true, true, true, true, true, true, true, false, false, false, false, false, false, false] rfl rfl (any_of HT_.out (by kernel_rfl)) (fun _ _ _ h => h) (Or.inl ⟨by rfl, ?_⟩) ?_ ?_
                  rotate_left
                  · intro w'
                    go_simp
                    with_reducible rfl
                  rotate_left
                  · simp only [Act.put, List.setIfInBounds_toArray, List.set_cons_zero, List.set_cons_succ, i64_w, i32_w]
                    rfl
                  refine pure_ (i := 34) (N := some 74) (v := ?_) (a' := ?_) #[true, true, true, true, true, true, true, true, true, true, true, true, true, true, true, true, true, true, true, true, true, true, true, true, true, true, true, true, true, true, true, true, true, true, true, false, false, false, false, false, false] rfl rfl (any_of HT_.out (by kernel_rfl)) (fun _ _ _ h => h) (Or.inl ⟨by rfl, ?_⟩) ?_ ?_
                  rotate_left
                  · intro w'
                    go_simp
                    with_reducible rfl
                  rotate_left
                  · simp only [Act.put, List.setIfInBounds_toArray, List.set_cons_zero, List.set_cons_succ, i64_w, i32_w]
                    rfl
                  refine take_ (i := 35) (N := some 75) (v := ?_) (a' := ?_) #[true, true, true, true, true, true, true, true, true, true, true, true, true, true, true, true, true, true, true, true, true, true, true, true, true, true, true, true, true, true, true, true, true, true, true, true, false, false, false, false, false] rfl rfl (take_ofW HT_.out HW_.out (by kernel_rfl)) (fun _ _ _ h => h) (Or.inl ⟨by rfl, ?_⟩) hHeld ?_ ?_
                  rotate_left
                  · rintro w' ⟨s0, s1, s2, s3, s4, s5, s6, s7⟩
                    go_simp
                    with_reducible rfl
                  rotate_left
                  · simp only [Act.put, List.setIfInBounds_toArray, List.set_cons_zero, List.set_cons_succ, i64_w, i32_w]
                    rfl
                  refine take_ (i := 36) (N := some 76) (v := ?_) (a' := ?_) #[true, true, true, true, true, true, true, true, true, true, true, true, true, true, true, true, true, true, true, true, true, true, true, true, true, true, true, true, true, true, true, true, true, true, true, true, true, false, false, false, false] rfl rfl (take_ofW HT_.out HW_.out (by kernel_rfl)) (fun _ _ _ h => h) (Or.inl ⟨by rfl, ?_⟩) hHeld ?_ ?_
                  rotate_left
                  · rintro w' ⟨s0, s1, s2, s3, s4, s5, s6, s7⟩
                    go_simp
                    with_reducible rfl
                  rotate_left
                  · simp only [Act.put, List.setIfInBounds_toArray, List.set_cons_zero, List.set_cons_succ, i64_w, i32_w]
                    rfl
                  refine one_ (i := 37) (N := some 77) #[true, true, true, true, true, true, true, true, true, true, true, true, true, true, true, true, true, true, true, true, true, true, true, true, true, true, true, true, true, true, true, true, true, true, true, true, true, true, false, false, false] rfl rfl (one_of HT_.out (by kernel_rfl)) (by decide) (fun K hK => ?_)
                  refine goes_ Try.func42 (by kernel_rfl) rfl #[.agg #[.slice Ao29 t147.length co29, .slice Ao32 t150.length co32], .agg #[.slice Ao22 t138.length co22, .slice Ao24 t141.length co24]] (by rfl) rfl rfl (by (try simp only [List.map_toArray, List.map_cons, List.map_nil]); first | done | rfl | (simp only [List.length_drop, List.length_take]; rfl)) ?_
                  with_reducible refine (disk_Same.calls k _ _ t147 _ _ t150 _ _ t138 _ _ t141 t184 _ ?side1 ?side2 ?side3 ?side4 ?side5 ?side6 ?side7 ?side8 A19.out).mono ?_
                  (case side1 => repeat (first | exact (Kd.V_reads' HO149.out).2.2 | (with_reducible refine Kd.C_alloc ?_ _) | (with_reducible refine Kd.C_drewN ?_ _) | (with_reducible refine Kd.C_drew ?_)))
                  (case side2 => exact (Kd.V_reads' HO149.out).2.1)
                  (case side3 => repeat (first | exact (Kd.V_reads' HO152.out).2.2 | (with_reducible refine Kd.C_alloc ?_ _) | (with_reducible refine Kd.C_drewN ?_ _) | (with_reducible refine Kd.C_drew ?_)))
                  (case side4 => exact (Kd.V_reads' HO152.out).2.1)
                  (case side5 => repeat (first | exact (Kd.R_reads' HO140.out).2.2 | (with_reducible refine Kd.C_alloc ?_ _) | (with_reducible refine Kd.C_drewN ?_ _) | (with_reducible refine Kd.C_drew ?_)))
                  (case side6 => exact (Kd.R_reads' HO140.out).2.1)
                  (case side7 => repeat (first | exact (Kd.R_reads' HO143.out).2.2 | (with_reducible refine Kd.C_alloc ?_ _) | (with_reducible refine Kd.C_drewN ?_ _) | (with_reducible refine Kd.C_drew ?_)))
                  (case side8 => exact (Kd.R_reads' HO143.out).2.1)
                  rintro e w62 ⟨rfl, hb⟩
                  refine ⟨_, rfl, ?_⟩
                  have n0_ := Aside0.mk (Kd.R_below (by (with_reducible repeat (first | apply Kd.R_alloc | apply Kd.R_drewN | apply Kd.R_drew)); exact HO140.out) hb)
                  have n1_ := Aside0.mk (Kd.R_below (by (with_reducible repeat (first | apply Kd.R_alloc | apply Kd.R_drewN | apply Kd.R_drew)); exact HO143.out) hb)
                  have n2_ := Aside0.mk (Kd.V_below (by (with_reducible repeat (first | apply Kd.V_alloc | apply Kd.V_drewN | apply Kd.V_drew)); exact HO149.out) hb)
                  have n3_ := Aside0.mk (Kd.V_below (by (with_reducible repeat (first | apply Kd.V_alloc | apply Kd.V_drewN | apply Kd.V_drew)); exact HO152.out) hb)
                  have n4_ := Aside0.mk (Kd.R_below (by (with_reducible repeat (first | apply Kd.R_alloc | apply Kd.R_drewN | apply Kd.R_drew)); exact HO159.out) hb)
                  have n5_ := Aside0.mk (Kd.R_below (by (with_reducible repeat (first | apply Kd.R_alloc | apply Kd.R_drewN | apply Kd.R_drew)); exact HO162.out) hb)
                  have n6_ := Aside0.mk (Kd.R_below (by (with_reducible repeat (first | apply Kd.R_alloc | apply Kd.R_drewN | apply Kd.R_drew)); exact HO166.out) hb)
                  have n7_ := Aside0.mk (Kd.V_below (by (with_reducible repeat (first | apply Kd.V_alloc | apply Kd.V_drewN | apply Kd.V_drew)); exact HO169.out) hb)
                  have n8_ := Aside0.mk (Kd.V_below (by (with_reducible repeat (first | apply Kd.V_alloc | apply Kd.V_drewN | apply Kd.V_drew)); exact HO172.out) hb)
                  have n9_ := Aside0.mk (Kd.R_below (by (with_reducible repeat (first | apply Kd.R_alloc | apply Kd.R_drewN | apply Kd.R_drew)); exact HO178.out) hb)
                  have n10_ := Aside0.mk (Kd.R_below (by (with_reducible repeat (first | apply Kd.R_alloc | apply Kd.R_drewN | apply Kd.R_drew)); exact HO181.out) hb)
                  have n11_ := Aside0.mk (blk_below (g := gb145) (o := .cells #[.slice Ao22 t138.length co22, .slice Ao24 t141.length co24] 63 (0, 0)) (by (with_reducible repeat (first | refine blk_drewN ?_ _ | refine blk_drew ?_ | refine blk_alloc ?_ _)); exact BK145.out) hb)
                  have n12_ := Aside0.mk (blk_below (g := gb154) (o := .cells #[.slice Ao29 t147.length co29, .slice Ao32 t150.length co32] 63 (0, 0)) (by (with_reducible repeat (first | refine blk_drewN ?_ _ | refine blk_drew ?_ | refine blk_alloc ?_ _)); exact BK154.out) hb)
                  have n13_ := Aside0.mk (blk_below (g := gb163) (o := .cells #[.slice Ao37 t157.length co37, .slice Ao41 t160.length co41] 63 (0, 0)) (by (with_reducible repeat (first | refine blk_drewN ?_ _ | refine blk_drew ?_ | refine blk_alloc ?_ _)); exact BK163.out) hb)
                  have n14_ := Aside0.mk (blk_below (g := gb174) (o := .cells #[.slice Ao48 t167.length co48, .slice Ao53 t170.length co53] 63 (0, 0)) (by (with_reducible repeat (first | refine blk_drewN ?_ _ | refine blk_drew ?_ | refine blk_alloc ?_ _)); exact BK174.out) hb)
                  have n15_ := Aside0.mk (below_step (by repeat (first | (with_reducible first | exact HB.out | apply below_alloc | apply pw_below_drewN | apply below_drew1 | refine below_set ?_ GE145.out | refine below_set ?_ GE154.out | refine below_set ?_ GE163.out | refine below_set ?_ GE174.out) | exact HB.out)) hb)
                  clear HO140
                  clear HO143
                  clear HO149
                  clear HO152
                  clear HO159
                  clear HO162
                  clear HO166
                  clear HO169
                  clear HO172
                  clear HO178
                  clear HO181
                  clear BK145
                  clear BK154
                  clear BK163
                  clear BK174
                  clear HB
                  have HO140 := n0_
                  have HO143 := n1_
                  have HO149 := n2_
                  have HO152 := n3_
                  have HO159 := n4_
                  have HO162 := n5_
                  have HO166 := n6_
                  have HO169 := n7_
                  have HO172 := n8_
                  have HO178 := n9_
                  have HO181 := n10_
                  have BK145 := n11_
                  have BK154 := n12_
                  have BK163 := n13_
                  have BK174 := n14_
                  have HB := n15_
                  clear n0_ n1_ n2_ n3_ n4_ n5_ n6_ n7_ n8_ n9_ n10_ n11_ n12_ n13_ n14_ n15_
                  (try clear hb)
                  (try clear hb2)
                  (try clear hk)
                  (try clear hi)
                  refine hK.out _ _ ⟨(blk_cell BK163.out 0).trans rfl, (blk_cell BK163.out 1).trans rfl, (blk_cell BK145.out 0).trans rfl, (blk_cell BK145.out 1).trans rfl, (blk_cell BK174.out 0).trans rfl, (blk_cell BK174.out 1).trans rfl, (blk_cell BK154.out 0).trans rfl, (blk_cell BK154.out 1).trans rfl⟩ (fun hHeld => ?_)
                  clear hK K
                  refine norm_ (a' := ?_) ?_ ?_
                  rotate_left
                  · show Act.put _ (some 77) _ = _
                    simp only [Act.put, List.setIfInBounds_toArray, List.set_cons_zero, List.set_cons_succ, i64_w, i32_w]
                    rfl
                  refine pure_ (i := 38) (N := some 78) (v := ?_) (a' := ?_) #[true, true, true, true, true, true, true, true, true, true, true, true, true, true, true, true, true, true, true, true, true, true, true, true, true, true, true, true, true, true, true, true, true, true, true, true, true, true, true, false, false] rfl rfl (any_of HT_.out (by kernel_rfl)) (fun _ _ _ h => h) (Or.inl ⟨by rfl, ?_⟩) ?_ ?_
                  rotate_left
                  · intro w'
                    go_simp
                    with_reducible rfl
                  rotate_left
                  · simp only [Act.put, List.setIfInBounds_toArray, List.set_cons_zero, List.set_cons_succ, i64_w, i32_w]
                    rfl
                  refine pure_ (i := 39) (N := some 79) (v := ?_) (a' := ?_) #[true, true, true, true, true, true, true, true, true, true, true, true, true, true, true, true, true, true, true, true, true, true, true, true, true, true, true, true, true, true, true, true, true, true, true, true, true, true, true, true, false] rfl rfl (any_of HT_.out (by kernel_rfl)) (fun _ _ _ h => h) (Or.inl ⟨by rfl, ?_⟩) ?_ ?_
                  rotate_left
                  · intro w'
                    go_simp
                    with_reducible rfl
                  rotate_left
                  · simp only [Act.put, List.setIfInBounds_toArray, List.set_cons_zero, List.set_cons_succ, i64_w, i32_w]
                    rfl
                  refine pure_ (i := 40) (N := some 0) (v := ?_) (a' := ?_) #[true, true, true, true, true, true, true, true, true, true, true, true, true, true, true, true, true, true, true, true, true, true, true, true, true, true, true, true, true, true, true, true, true, true, true, true, true, true, true, true, true] rfl rfl (any_of HT_.out (by kernel_rfl)) (fun _ _ _ h => h) (Or.inl ⟨by rfl, ?_⟩) ?_ ?_
                  rotate_left
                  · intro w'
                    go_simp
                    with_reducible rfl
                  rotate_left
                  · simp only [Act.put, List.setIfInBounds_toArray, List.set_cons_zero, List.set_cons_succ, i64_w, i32_w]
                    rfl
                  refine done_ (done_of HT_.out (by kernel_rfl)) ?_
                  try go_wp2
                  go_ret
                  exact ⟨by first | rfl | (simp [errW_none, errW_some] <;> rfl) | (simp [*, errW_none, errW_some] <;> rfl), by repeat (first | (with_reducible first | exact HB.out | apply below_alloc | apply pw_below_drewN | apply below_drew1 | refine below_set ?_ GE145.out | refine below_set ?_ GE154.out | refine below_set ?_ GE163.out | refine below_set ?_ GE174.out) | exact HB.out)⟩
                · replace c18 := Bool.eq_false_iff.mpr c18
                  subst c18
                  have H1 : (none) = some r := by rw [if_neg (show ¬ (false = true) by decide)] at H; exact H
                  clear H
                  have H := H1
                  clear H1
                  exact absurd H (by simp)
              · replace c16 := Bool.eq_false_iff.mpr c16
                subst c16
                have H1 : (none) = some r := by rw [if_neg (show ¬ (false = true) by decide)] at H; exact H
                clear H
                have H := H1
                clear H1
                exact absurd H (by simp)
            · rw [if_neg c13] at H
              have c13b0 : (t173 == 2) = false := beq_eq_false_iff_ne.mpr c13
              have c13b1 : (t173 != 2) = true := bne_iff_ne.mpr c13
              exact absurd H (by simp)
          · replace c12 := Bool.eq_false_iff.mpr c12
            subst c12
            have H1 : (none) = some r := by rw [if_neg (show ¬ (false = true) by decide)] at H; exact H
            clear H
            have H := H1
            clear H1
            exact absurd H (by simp)
        · rw [if_neg c10] at H
          have c10b0 : (t155.toList == t146.toList) = false := beq_eq_false_iff_ne.mpr c10
          have c10b1 : (t155.toList != t146.toList) = true := bne_iff_ne.mpr c10
          exact absurd H (by simp)
      · rw [if_neg c9] at H
        have c9b0 : (t156 == 0) = false := beq_eq_false_iff_ne.mpr c9
        have c9b1 : (t156 != 0) = true := bne_iff_ne.mpr c9
        exact absurd H (by simp)
    · rw [if_neg c8] at H
      have c8b0 : (t153 == 0) = false := beq_eq_false_iff_ne.mpr c8
      have c8b1 : (t153 != 0) = true := bne_iff_ne.mpr c8
      exact absurd H (by simp)
  · rw [if_neg c7] at H
    have c7b0 : (t144 == 0) = false := beq_eq_false_iff_ne.mpr c7
    have c7b1 : (t144 != 0) = true := bne_iff_ne.mpr c7
    exact absurd H (by simp)
end Go.Proofs.Ytgjjcgemelafaaa.P
