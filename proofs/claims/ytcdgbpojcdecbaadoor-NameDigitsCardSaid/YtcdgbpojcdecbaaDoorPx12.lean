-- By wip/tools/drive.py: the kit's print, with contracts of this session's own among the functions.
import Derived.Test.YtcdgbpojcdecbaaDoorPx0
import Derived.Test.YtcdgbpojcdecbaaDoorPx1
import Derived.Test.YtcdgbpojcdecbaaDoorPx3
import Derived.Test.YtcdgbpojcdecbaaDoorPx4
import Derived.Test.YtcdgbpojcdecbaaDoorPx7
import Derived.Test.YtcdgbpojcdecbaaDoorPx9
import Derived.Test.YtcdgbpojcdecbaaDoorPx10
import Derived.Test.YtcdgbpojcdecbaaDoorPx11
namespace Go.Proofs.YtcdgbpojcdecbaaDoor.P
open Go.RowKit Go.Proofs.YtcdgbpojcdecbaaDoorW.PrintWords Go.Proofs.YtcdgbpojcdecbaaDoorW.PrintLast Go.Proofs.YtcdgbpojcdecbaaDoorW.PrintMore
attribute [local go_sem] max2_int min2_int max_two min_two max_three min_three max_four min_four   -- for this text's walks alone
set_option linter.unusedVariables false
set_option linter.unusedSimpArgs false

-- GIVEN
/-! ### assartlaw17_shown: function 9 -/

def assartlaw17_shown.f : Option Bool := some true
theorem shown_cut (A : Option Addr) (c : Nat) (hc : 2 ≤ c) : ∀ W : World, (Instr.slice 22 (.slice A 2 c) none (some (.int .i64 1)) none).run Tryd.prog W = .ok (.slice A 1 c) W := by
  obtain ⟨i0, hi0, _, hs0, _⟩ := info_parts info3
  exact cut_to (P := Tryd.prog) 22 3 .i64 Tryd.underlying22 hi0 A 2 c 1 (by omega) (by omega) hc
theorem shown_ints (A B : Option Addr) (c d : Nat) (W : World) (h1 : Kd.C (Kd.int .i64) W A 2 [2, 28]) (h2 : 2 ≤ c) (h3 : Kd.C (Kd.int .i64) W B 2 [2, 28]) (h4 : 2 ≤ d) :
    Calls Tryd.prog 18 #[.slice A 2 c, .slice B 2 d] W fun e w' => e = .returned (.bool true) ∧ Drawn0 W w' := assartref07_Ints.calls 3 A c [2, 28] B d [2, 28] true W h1 h2 h3 h4 (by decide +kernel)
theorem shown_within (A : Option Addr) (c : Nat) (W : World) (h1 : Kd.C (Kd.int .i64) W A 2 [2, 28]) (h2 : 2 ≤ c) :
    Calls Tryd.prog 19 #[.slice A 1 c, .slice A 2 c] W fun e w' => e = .returned (.bool true) ∧ Drawn0 W w' := name_Within.calls A c [2] A c [2, 28] true W (Kd.C_take (m := 1) (xs := [2, 28]) h1 (by decide)) (show 1 ≤ c by omega) h1 h2 (by decide)
theorem shown_not (A : Option Addr) (c : Nat) (W : World) (h1 : Kd.C (Kd.int .i64) W A 2 [2, 28]) (h2 : 2 ≤ c) :
    Calls Tryd.prog 19 #[.slice A 2 c, .slice A 1 c] W fun e w' => e = .returned (.bool false) ∧ Drawn0 W w' := name_Within.calls A c [2, 28] A c [2] false W h1 h2 (Kd.C_take (m := 1) (xs := [2, 28]) h1 (by decide)) (show 1 ≤ c by omega) (by decide)
theorem shown_path : name_Path.f ⟨#[47, 98, 47, 97, 97]⟩ = some ([2, 28], 0) := by
  unfold name_Path.f strings_CutPrefix.f stringslite_CutPrefix.f stringslite_HasPrefix.f
  simp only [ByteArray.toList_eq]
  decide
set_option maxHeartbeats 1000000 in
set_option maxRecDepth 100000 in
theorem assartlaw17_shown.calls (r : Bool) (w : World) (h : assartlaw17_shown.f = some r) :
    Calls Tryd.prog 9 #[] w fun e w' => e = .returned (.bool r) ∧ Below w.heap.size w w' := by
  obtain rfl := Option.some.inj h
  clear h
  go_enter Tryd.func9, Tryd.ntmps9
  go_wp2_with (first | (go_at_call 10; refine (name_Of.calls (⟨#[97, 97]⟩ : ByteArray) 28 0 _ (by rfl)).mono ?_; rintro e w1 ⟨rfl, hb⟩; have HB := Aside0.mk hb; clear hb) | (go_at_call 12; refine (name_Text.calls 26 (⟨#[122]⟩ : ByteArray) 0 _ (by rfl)).mono ?_; rintro e w2 ⟨rfl, hb⟩; have n0_ := Aside0.mk (below_step HB.out hb); clear HB hb; have HB := n0_; clear n0_) | (go_at_call 14; refine (name_Path.calls (⟨#[47, 98, 47, 97, 97]⟩ : ByteArray) [2, 28] 0 _ shown_path).mono ?_; rintro e w3 ⟨v, rfl, ho, hb⟩; have n0_ := Aside0.mk (below_step HB.out hb); clear HB hb; have HB := n0_; clear n0_; obtain ⟨Ao, co, eo⟩ := Kd.R_slice ho; subst eo; have HC := Aside0.mk (show 2 ≤ co ∧ Kd.C (Kd.int .i64) w3 Ao 2 [2, 28] from (Kd.R_reads' ho).2); have hcut := shown_cut Ao co HC.out.1; clear ho) | (go_at_call 16; refine (name_Join.calls Ao co [2, 28] (⟨#[47, 98, 47, 97, 97]⟩ : ByteArray) 0 _ HC.out.2 HC.out.1 (by rfl)).mono ?_; rintro e w4 ⟨rfl, hb⟩; have n0_ := Aside0.mk (below_step HB.out hb); have n1_ := Aside0.mk (And.intro HC.out.1 (Kd.C_below HC.out.2 hb)); clear HB HC hb; have HB := n0_; have HC := n1_; clear n0_ n1_) | ((with_reducible refine gate_dst (N := 46) rfl ?_); (try (refine gate_guard (by rfl) ?_; dsimp only)); refine Kd.R_lit (Kd.int .i64) _ 3 ?hg (N := 46) ?hd (xs := ([2, 28] : List Int)) (inner := [.int .i64 2, .int .i64 28]) (ok := fun _ => True) (okp := fun _ => True) ?hr ?hp (fun _ hk => hk) trivial (Below.refl _ _) (Nat.le_refl _) (by simp) ?_; (case hd => rfl); (case hg => rfl); (case hr => first | (go_simp; done) | (go_simp; rfl)); (case hp => exact (Reps.one (show Kd.M (Kd.int .i64) _ _ _ 2 [.int .i64 2] from rfl) (Reps.one (show Kd.M (Kd.int .i64) _ _ _ 28 [.int .i64 28] from rfl) (Reps.none _ _)))); intro v5 w5 ho hb hg_ hnew_; clear hg_ hnew_; obtain ⟨Ap, cp, eo⟩ := Kd.R_slice ho; subst eo; have HD := Aside0.mk (show 2 ≤ cp ∧ Kd.C (Kd.int .i64) w5 Ap 2 [2, 28] from (Kd.R_reads' ho).2); have n0_ := Aside0.mk (below_step HB.out hb); have n1_ := Aside0.mk (And.intro HC.out.1 (Kd.C_below HC.out.2 hb)); clear HB HC hb ho; have HB := n0_; have HC := n1_; clear n0_ n1_) | (go_at_call 18; (with_reducible refine (shown_ints Ao Ap co cp _ HC.out.2 HC.out.1 HD.out.2 HD.out.1).mono ?_); rintro e w' ⟨rfl, ⟨nd, rfl⟩⟩; clear HD) | (go_at_call 19; (with_reducible refine (shown_within Ao co _ ?s1 HC.out.1).mono ?_); (case s1 => repeat (first | exact HC.out.2 | (with_reducible refine Kd.C_alloc ?_ _) | (with_reducible refine Kd.C_drewN ?_ _) | (with_reducible refine Kd.C_drew ?_))); rintro e w' ⟨rfl, ⟨nd1, rfl⟩⟩) | (go_at_call 19; (with_reducible refine (shown_not Ao co _ ?s1 HC.out.1).mono ?_); (case s1 => repeat (first | exact HC.out.2 | (with_reducible refine Kd.C_alloc ?_ _) | (with_reducible refine Kd.C_drewN ?_ _) | (with_reducible refine Kd.C_drew ?_))); rintro e w' ⟨rfl, ⟨nd2, rfl⟩⟩))
  go_ret
  exact ⟨rfl, by repeat (first | (with_reducible first | exact HB.out | apply below_alloc | apply pw_below_drewN | apply below_drew1) | exact HB.out)⟩


end Go.Proofs.YtcdgbpojcdecbaaDoor.P
