/- The last of the claim's own texts, in one file: Gx34, WalkJoined, RowScriptJoined. Conditions: each theorem's own. -/
import Derived.Test.YtlfoaaeelcmhiaaDoorZBase1
import Derived.Test.YtlfoaaeelcmhiaaDoorZBase2
import Derived.Test.YtlfoaaeelcmhiaaDoorZBase4
import Derived.Test.YtlfoaaeelcmhiaaDoorRows
import Derived.Test.YtlfoaaeelcmhiaaDoorCards
import Derived.Test.YtlfoaaeelcmhiaaDoorTie
import Derived.WalkKit
import Derived.ProofKit
import Derived.OpenShut
import Derived.ShutString
import Derived.ChangeOld
import Derived.Below
import Derived.SizedLaws
import Derived.JoinedCond
import Derived.Deep.CondSized
section
-- Written by a program of this session (wip/gprint.py: the kit's print, with contracts proved by hand)
namespace Go.Proofs.YtlfoaaeelcmhiaaDoor.G
open Go.RowKit Go.Proofs.YtlfoaaeelcmhiaaDoorW.PrintWords Go.Proofs.YtlfoaaeelcmhiaaDoorW.PrintLast Go.Proofs.YtlfoaaeelcmhiaaDoorW.PrintMore
attribute [local go_sem] max2_int min2_int max_two min_two max_three min_three max_four min_four   -- for this text's walks alone
set_option linter.unusedVariables false
set_option linter.unusedSimpArgs false

/-! ### inclinelaw21_ScriptJoined: function 10 -/
def inclinelaw21_ScriptJoined.j0 : Nat → ByteArray → ByteArray → Bool → List (S30) → List (S30) → Bool → Option (Bool)
  | 0, _, _, _, _, _, _ => none
  | k + 1, x0, x1, x5, x6, x9, x52 => if x52 = true then (some x5) else (if x0.size + 1 ≤ 9223372036854775807 then (if (x0 ++ (⟨#[10]⟩ : ByteArray)).size + x1.size ≤ 9223372036854775807 then ((script_Parse.f ((x0 ++ (⟨#[10]⟩ : ByteArray)) ++ x1)).bind fun bt466 => (if x5 = true then (if bt466.2.2 = 0 then (if bt466.2.1 = 0 then ((some (([] : List (S30)) : List (S30))).bind fun y471 => (if y471.length + x6.length < 3518437208883 then ((some (y471 ++ x6 : List (S30))).bind fun y474 => (if y474.length + x9.length < 3518437208883 then ((inclinelaw21_same.f k bt466.1 (y474 ++ x9)).bind fun t480 => (some t480)) else (none))) else (none))) else (none)) else (none)) else (none))) else (none)) else (none))
def inclinelaw21_ScriptJoined.f (k : Nat) (a0 : ByteArray) (a1 : ByteArray) : Option (Bool) := (inclinelaw21_shown.f k).bind fun t455 => (if t455 = true then ((script_Parse.f a0).bind fun bt456 => ((script_Parse.f a1).bind fun bt461 => (if bt456.2.2 = 0 then (if bt461.2.2 = 0 then (if (wrap64 ((wrap64 ((a0.size : Int) + 1)) + (a1.size : Int))) > 65536 then (inclinelaw21_ScriptJoined.j0 k a0 a1 t455 bt456.1 bt461.1 true) else (inclinelaw21_ScriptJoined.j0 k a0 a1 t455 bt456.1 bt461.1 (decide ((wrap64 ((bt456.1.length : Int) + (bt461.1.length : Int))) > 4096)))) else (inclinelaw21_ScriptJoined.j0 k a0 a1 t455 bt456.1 bt461.1 true)) else (inclinelaw21_ScriptJoined.j0 k a0 a1 t455 bt456.1 bt461.1 true)))) else (none))
theorem inclinelaw21_ScriptJoined.mono_l : ∀ k, (∀ y0 y1 y2 y3 y4 y5, LeO (inclinelaw21_ScriptJoined.j0 k y0 y1 y2 y3 y4 y5) (inclinelaw21_ScriptJoined.j0 (k + 1) y0 y1 y2 y3 y4 y5))
  | 0 => fun _ _ _ _ _ _ r h => by simp [inclinelaw21_ScriptJoined.j0] at h
  | k + 1 => by
    have ih0 := inclinelaw21_ScriptJoined.mono_l k
    · intro y0 y1 y2 y3 y4 y5
      unfold inclinelaw21_ScriptJoined.j0
      repeat' first
      | (with_reducible exact ih0 _ _ _ _ _ _)
      | (with_reducible exact inclinelaw21_same.mono _ _ _)
      | (with_reducible exact inclinelaw21_shown.mono _)
      | (with_reducible exact LeO.refl _)
      | (with_reducible exact LeO.none _)
      | (with_reducible refine LeO.ite ?_ ?_)
      | (with_reducible refine LeO.bind ?_ (fun _ => ?_))
      | exact ih0 _ _ _ _ _ _
      | exact inclinelaw21_same.mono _ _ _
      | exact inclinelaw21_shown.mono _
      | exact LeO.none _
      | refine LeO.ite ?_ ?_
      | refine LeO.bind ?_ (fun _ => ?_)
theorem inclinelaw21_ScriptJoined.mono : ∀ a0 a1 k, LeO (inclinelaw21_ScriptJoined.f k a0 a1) (inclinelaw21_ScriptJoined.f (k + 1) a0 a1) := by
  intro a0 a1 k
  have ih0 := inclinelaw21_ScriptJoined.mono_l k
  unfold inclinelaw21_ScriptJoined.f
  repeat' first
      | (with_reducible exact ih0 _ _ _ _ _ _)
      | (with_reducible exact inclinelaw21_same.mono _ _ _)
      | (with_reducible exact inclinelaw21_shown.mono _)
      | (with_reducible exact LeO.refl _)
      | (with_reducible exact LeO.none _)
      | (with_reducible refine LeO.ite ?_ ?_)
      | (with_reducible refine LeO.bind ?_ (fun _ => ?_))
      | exact ih0 _ _ _ _ _ _
      | exact inclinelaw21_same.mono _ _ _
      | exact inclinelaw21_shown.mono _
      | exact LeO.none _
      | refine LeO.ite ?_ ?_
      | refine LeO.bind ?_ (fun _ => ?_)
set_option maxHeartbeats 8000000 in
set_option maxRecDepth 100000 in
theorem inclinelaw21_ScriptJoined.calls (k : Nat) (a0 : ByteArray) (a1 : ByteArray) (r : Bool) (w : World) (hT : Tabs w) (h : inclinelaw21_ScriptJoined.f k a0 a1 = some r) :
    Calls Tryd.prog 10 #[.string a0, .string a1] w fun e w' => e = .returned (.bool r) ∧ Below w.heap.size w w' := by
  have HT := Aside0.mk hT
  clear hT
  have HB := Aside0.mk (Below.refl w.heap.size w)
  have H : ((inclinelaw21_shown.f k).bind fun t455 => (if t455 = true then ((script_Parse.f a0).bind fun bt456 => ((script_Parse.f a1).bind fun bt461 => (if bt456.2.2 = 0 then (if bt461.2.2 = 0 then (if (wrap64 ((wrap64 ((a0.size : Int) + 1)) + (a1.size : Int))) > 65536 then (inclinelaw21_ScriptJoined.j0 k a0 a1 t455 bt456.1 bt461.1 true) else (inclinelaw21_ScriptJoined.j0 k a0 a1 t455 bt456.1 bt461.1 (decide ((wrap64 ((bt456.1.length : Int) + (bt461.1.length : Int))) > 4096)))) else (inclinelaw21_ScriptJoined.j0 k a0 a1 t455 bt456.1 bt461.1 true)) else (inclinelaw21_ScriptJoined.j0 k a0 a1 t455 bt456.1 bt461.1 true)))) else (none))) = some r := h
  clear h
  replace H := Option.bind_eq_some_iff.mp H
  obtain ⟨t455, A30, H⟩ := H
  replace H : (if t455 = true then ((script_Parse.f a0).bind fun bt456 => ((script_Parse.f a1).bind fun bt461 => (if bt456.2.2 = 0 then (if bt461.2.2 = 0 then (if (wrap64 ((wrap64 ((a0.size : Int) + 1)) + (a1.size : Int))) > 65536 then (inclinelaw21_ScriptJoined.j0 k a0 a1 t455 bt456.1 bt461.1 true) else (inclinelaw21_ScriptJoined.j0 k a0 a1 t455 bt456.1 bt461.1 (decide ((wrap64 ((bt456.1.length : Int) + (bt461.1.length : Int))) > 4096)))) else (inclinelaw21_ScriptJoined.j0 k a0 a1 t455 bt456.1 bt461.1 true)) else (inclinelaw21_ScriptJoined.j0 k a0 a1 t455 bt456.1 bt461.1 true)))) else (none)) = some r := H
  have A3 := Aside0.mk A30
  clear A30
  by_cases c4 : t455 = true
  · subst c4
    have H1 : ((script_Parse.f a0).bind fun bt456 => ((script_Parse.f a1).bind fun bt461 => (if bt456.2.2 = 0 then (if bt461.2.2 = 0 then (if (wrap64 ((wrap64 ((a0.size : Int) + 1)) + (a1.size : Int))) > 65536 then (inclinelaw21_ScriptJoined.j0 k a0 a1 true bt456.1 bt461.1 true) else (inclinelaw21_ScriptJoined.j0 k a0 a1 true bt456.1 bt461.1 (decide ((wrap64 ((bt456.1.length : Int) + (bt461.1.length : Int))) > 4096)))) else (inclinelaw21_ScriptJoined.j0 k a0 a1 true bt456.1 bt461.1 true)) else (inclinelaw21_ScriptJoined.j0 k a0 a1 true bt456.1 bt461.1 true)))) = some r := by rw [if_pos rfl] at H; exact H
    clear H
    have H := H1
    clear H1
    replace H := Option.bind_eq_some_iff.mp H
    obtain ⟨⟨t456, t457, t458⟩, A50, H⟩ := H
    replace H : ((script_Parse.f a1).bind fun bt461 => (if t458 = 0 then (if bt461.2.2 = 0 then (if (wrap64 ((wrap64 ((a0.size : Int) + 1)) + (a1.size : Int))) > 65536 then (inclinelaw21_ScriptJoined.j0 k a0 a1 true t456 bt461.1 true) else (inclinelaw21_ScriptJoined.j0 k a0 a1 true t456 bt461.1 (decide ((wrap64 ((t456.length : Int) + (bt461.1.length : Int))) > 4096)))) else (inclinelaw21_ScriptJoined.j0 k a0 a1 true t456 bt461.1 true)) else (inclinelaw21_ScriptJoined.j0 k a0 a1 true t456 bt461.1 true))) = some r := H
    have A5 := Aside0.mk A50
    clear A50
    replace H := Option.bind_eq_some_iff.mp H
    obtain ⟨⟨t461, t462, t463⟩, A60, H⟩ := H
    replace H : (if t458 = 0 then (if t463 = 0 then (if (wrap64 ((wrap64 ((a0.size : Int) + 1)) + (a1.size : Int))) > 65536 then (inclinelaw21_ScriptJoined.j0 k a0 a1 true t456 t461 true) else (inclinelaw21_ScriptJoined.j0 k a0 a1 true t456 t461 (decide ((wrap64 ((t456.length : Int) + (t461.length : Int))) > 4096)))) else (inclinelaw21_ScriptJoined.j0 k a0 a1 true t456 t461 true)) else (inclinelaw21_ScriptJoined.j0 k a0 a1 true t456 t461 true)) = some r := H
    have A6 := Aside0.mk A60
    clear A60
    have HC7 := Aside0.mk H
    clear H
    go_enter Tryd.func10, Tryd.ntmps10
    go_upto_region 6 with (first | ((with_reducible refine gate_callee (f := 11) rfl ?_); refine goesL_ (some 15) rfl rfl Tryd.func11 (by kernel_rfl) rfl #[] rfl (by (try simp only [List.map_toArray, List.map_cons, List.map_nil]); first | done | rfl | (simp only [List.length_drop, List.length_take]; rfl)) ?_; (with_reducible refine (inclinelaw21_shown.calls k  true _ ?sideT A3.out).mono ?_); (case sideT => exact Tabs.keep HT.out (by repeat (first | (with_reducible first | exact HB.out | apply below_alloc | apply pw_below_drewN | apply below_drew1) | exact HB.out))); rintro e w8 ⟨rfl, hb⟩; refine ⟨_, rfl, ?_⟩; have n0_ := Aside0.mk (below_step (by repeat (first | (with_reducible first | exact HB.out | apply below_alloc | apply pw_below_drewN | apply below_drew1) | exact HB.out)) hb); clear HB; have HB := n0_; clear n0_; (try clear hb); (try clear hb2); (try clear hk); (try clear hi)) | ((with_reducible refine gate_callee (f := 12) rfl ?_); refine goesL_ (some 20) rfl rfl Tryd.func12 (by kernel_rfl) rfl #[.string a0] rfl (by (try simp only [List.map_toArray, List.map_cons, List.map_nil]); first | done | rfl | (simp only [List.length_drop, List.length_take]; rfl)) ?_; (with_reducible refine (script_Parse.calls a0 t456 t457 t458 _ A5.out).mono ?_); rintro e w9 ⟨v459, rfl, ho0, hb⟩; refine ⟨_, rfl, ?_⟩; have n0_ := Aside0.mk (Kd.N_lower (Kd.N_mono (ok' := fun k_ => True) (Kd.S_N (Kd.S_bound ho0)) (fun k_ hk_ => trivial)) (below_size (by repeat (first | (with_reducible first | exact HB.out | apply below_alloc | apply pw_below_drewN | apply below_drew1) | exact HB.out)))); have n1_ := Aside0.mk (below_step (by repeat (first | (with_reducible first | exact HB.out | apply below_alloc | apply pw_below_drewN | apply below_drew1) | exact HB.out)) hb); clear HB; have HO460 := n0_; have HB := n1_; clear n0_ n1_; (try clear hb); (try clear hb2); (try clear hk); (try clear hi); (try clear ho0)) | ((with_reducible refine gate_callee (f := 12) rfl ?_); refine goesL_ (some 26) rfl rfl Tryd.func12 (by kernel_rfl) rfl #[.string a1] rfl (by (try simp only [List.map_toArray, List.map_cons, List.map_nil]); first | done | rfl | (simp only [List.length_drop, List.length_take]; rfl)) ?_; (with_reducible refine (script_Parse.calls a1 t461 t462 t463 _ A6.out).mono ?_); rintro e w10 ⟨v464, rfl, ho0, hb⟩; refine ⟨_, rfl, ?_⟩; have n0_ := Aside0.mk (Kd.N_elder' (by (with_reducible repeat (first | apply Kd.N_alloc | apply Kd.N_drewN | apply Kd.N_drew)); exact HO460.out) (Kd.N_base (Kd.S_N ho0)) hb); have n1_ := Aside0.mk (Kd.N_lower (Kd.N_mono (ok' := fun k_ => some k_ ≠ (v459 : Value).ownBlock) (Kd.S_N (Kd.S_bound ho0)) (fun k_ hk_ => (Kd.fresh' (Kd.N_lt (by (with_reducible repeat (first | apply Kd.N_alloc | apply Kd.N_drewN | apply Kd.N_drew)); exact HO460.out)) k_ hk_.2.1))) (below_size (by repeat (first | (with_reducible first | exact HB.out | apply below_alloc | apply pw_below_drewN | apply below_drew1) | exact HB.out)))); have n2_ := Aside0.mk (below_step (by repeat (first | (with_reducible first | exact HB.out | apply below_alloc | apply pw_below_drewN | apply below_drew1) | exact HB.out)) hb); clear HO460; clear HB; have HO460 := n0_; have HO465 := n1_; have HB := n2_; clear n0_ n1_ n2_; (try clear hb); (try clear hb2); (try clear hk); (try clear hi); (try clear ho0)))
    (try simp only [Act.put, List.setIfInBounds_toArray, List.set_cons_zero, List.set_cons_succ])
    go_cut [52] (fun v52 wc => ∃ (kq : Nat) (x52_6 : Bool), v52 = .bool x52_6 ∧ Aside0 (inclinelaw21_ScriptJoined.j0 kq a0 a1 true t456 t461 x52_6 = some r) ∧ Aside0 (kq ≤ k) ∧ Aside0 (Kd.N k30 30 wc w.heap.size (fun k_ => some k_ ≠ (v464 : Value).ownBlock) v459 t456) ∧ Aside0 (Kd.N k30 30 wc w.heap.size (fun k_ => some k_ ≠ (v459 : Value).ownBlock) v464 t461) ∧ Aside0 (Below w.heap.size w wc))
    case first =>
      have H := HC7.out
      clear HC7
      by_cases c11 : t458 = 0
      · rw [if_pos c11] at H
        have c11b0 : (t458 == 0) = true := beq_iff_eq.mpr c11
        have c11b1 : (t458 != 0) = false := bne_eq_false_iff_eq.mpr c11
        clear c11
        (first | rw [c11b0] | (simp only [i64_w, i32_w]; rw [c11b0]) | skip)
        by_cases c12 : t463 = 0
        · rw [if_pos c12] at H
          have c12b0 : (t463 == 0) = true := beq_iff_eq.mpr c12
          have c12b1 : (t463 != 0) = false := bne_eq_false_iff_eq.mpr c12
          clear c12
          by_cases c13 : (wrap64 ((wrap64 ((a0.size : Int) + 1)) + (a1.size : Int))) > 65536
          · rw [if_pos c13] at H
            have c13b0 : decide (65536 < (wrap64 ((wrap64 ((a0.size : Int) + 1)) + (a1.size : Int)))) = true := decide_eq_true c13
            clear c13
            have H' := Aside0.mk H
            clear H
            go_wp2
            go_meet
            case rel => exact ⟨_, (true), (by first | rfl | (simp; done) | (simp [*]; done)), H', ⟨by first | omega | exact Nat.le_refl _⟩, ⟨by (with_reducible repeat (first | apply Kd.N_alloc | apply Kd.N_drewN | apply Kd.N_drew)); exact Kd.N_mono HO460.out (fun _ hk => hk.2)⟩, ⟨by (with_reducible repeat (first | apply Kd.N_alloc | apply Kd.N_drewN | apply Kd.N_drew)); exact HO465.out⟩, ⟨by repeat (first | (with_reducible first | exact HB.out | apply below_alloc | apply pw_below_drewN | apply below_drew1) | exact HB.out)⟩⟩
          · rw [if_neg c13] at H
            have c13b0 : decide (65536 < (wrap64 ((wrap64 ((a0.size : Int) + 1)) + (a1.size : Int)))) = false := decide_eq_false c13
            clear c13
            have H' := Aside0.mk H
            clear H
            obtain ⟨Ao14, co14, eo14⟩ := Kd.N_slice HO460.out
            subst eo14
            obtain ⟨Ao15, co15, eo15⟩ := Kd.N_slice HO465.out
            subst eo15
            go_wp2
            go_meet
            case rel => exact ⟨_, (decide ((wrap64 ((t456.length : Int) + (t461.length : Int))) > 4096)), (by first | rfl | (simp; done) | (simp [*]; done)), H', ⟨by first | omega | exact Nat.le_refl _⟩, ⟨by (with_reducible repeat (first | apply Kd.N_alloc | apply Kd.N_drewN | apply Kd.N_drew)); exact Kd.N_mono HO460.out (fun _ hk => hk.2)⟩, ⟨by (with_reducible repeat (first | apply Kd.N_alloc | apply Kd.N_drewN | apply Kd.N_drew)); exact HO465.out⟩, ⟨by repeat (first | (with_reducible first | exact HB.out | apply below_alloc | apply pw_below_drewN | apply below_drew1) | exact HB.out)⟩⟩
        · rw [if_neg c12] at H
          have c12b0 : (t463 == 0) = false := beq_eq_false_iff_ne.mpr c12
          have c12b1 : (t463 != 0) = true := bne_iff_ne.mpr c12
          have H' := Aside0.mk H
          clear H
          go_wp2
          go_meet
          case rel => exact ⟨_, (true), (by first | rfl | (simp; done) | (simp [*]; done)), H', ⟨by first | omega | exact Nat.le_refl _⟩, ⟨by (with_reducible repeat (first | apply Kd.N_alloc | apply Kd.N_drewN | apply Kd.N_drew)); exact Kd.N_mono HO460.out (fun _ hk => hk.2)⟩, ⟨by (with_reducible repeat (first | apply Kd.N_alloc | apply Kd.N_drewN | apply Kd.N_drew)); exact HO465.out⟩, ⟨by repeat (first | (with_reducible first | exact HB.out | apply below_alloc | apply pw_below_drewN | apply below_drew1) | exact HB.out)⟩⟩
      · rw [if_neg c11] at H
        have c11b0 : (t458 == 0) = false := beq_eq_false_iff_ne.mpr c11
        have c11b1 : (t458 != 0) = true := bne_iff_ne.mpr c11
        (first | rw [c11b0] | (simp only [i64_w, i32_w]; rw [c11b0]) | skip)
        have H' := Aside0.mk H
        clear H
        go_wp2
        go_meet
        case rel => exact ⟨_, (true), (by first | rfl | (simp; done) | (simp [*]; done)), H', ⟨by first | omega | exact Nat.le_refl _⟩, ⟨by (with_reducible repeat (first | apply Kd.N_alloc | apply Kd.N_drewN | apply Kd.N_drew)); exact Kd.N_mono HO460.out (fun _ hk => hk.2)⟩, ⟨by (with_reducible repeat (first | apply Kd.N_alloc | apply Kd.N_drewN | apply Kd.N_drew)); exact HO465.out⟩, ⟨by repeat (first | (with_reducible first | exact HB.out | apply below_alloc | apply pw_below_drewN | apply below_drew1) | exact HB.out)⟩⟩
    case rest =>
      clear HC7
      try clear c1
      try clear p2
      try clear c4
      try clear p6
      try clear c10
      try clear c11
      try clear c11b0
      try clear c11b1
      try clear c12
      try clear c12b0
      try clear c12b1
      try clear c13
      try clear c13b0
      obtain ⟨kq, x52_6, rfl, HA, HJ6, HO_6, HO_9, HB⟩ := hcut
      cases kq with
      | zero => exact absurd HA.out (by simp [inclinelaw21_ScriptJoined.j0])
      | succ kj6 =>
        have H := HA.out
        clear HA
        simp only [inclinelaw21_ScriptJoined.j0] at H
        by_cases c16 : x52_6 = true
        · subst c16
          have H1 : (some true) = some r := by rw [if_pos rfl] at H; exact H
          clear H
          have H := H1
          clear H1
          obtain rfl := Option.some.inj H
          go_wp2
          go_ret
          exact ⟨by first | rfl | (simp [errW_none, errW_some] <;> rfl) | (simp [*, errW_none, errW_some] <;> rfl), by repeat (first | (with_reducible first | exact HB.out | apply below_alloc | apply pw_below_drewN | apply below_drew1) | exact HB.out)⟩
        · replace c16 := Bool.eq_false_iff.mpr c16
          subst c16
          have H1 : (if a0.size + 1 ≤ 9223372036854775807 then (if (a0 ++ (⟨#[10]⟩ : ByteArray)).size + a1.size ≤ 9223372036854775807 then ((script_Parse.f ((a0 ++ (⟨#[10]⟩ : ByteArray)) ++ a1)).bind fun bt466 => (if true = true then (if bt466.2.2 = 0 then (if bt466.2.1 = 0 then ((some (([] : List (S30)) : List (S30))).bind fun y471 => (if y471.length + t456.length < 3518437208883 then ((some (y471 ++ t456 : List (S30))).bind fun y474 => (if y474.length + t461.length < 3518437208883 then ((inclinelaw21_same.f kj6 bt466.1 (y474 ++ t461)).bind fun t480 => (some t480)) else (none))) else (none))) else (none)) else (none)) else (none))) else (none)) else (none)) = some r := by rw [if_neg (show ¬ (false = true) by decide)] at H; exact H
          clear H
          have H := H1
          clear H1
          by_cases c17 : a0.size + 1 ≤ 9223372036854775807
          · rw [if_pos c17] at H
            have c17b0 := eq_true c17
            have c17b1 : decide (a0.size + 1 ≤ 9223372036854775807) = true := decide_eq_true c17
            try have c17b2 : (9223372036854775807 < a0.size + 1) = False := eq_false (Nat.not_lt.2 c17)
            by_cases c18 : (a0 ++ (⟨#[10]⟩ : ByteArray)).size + a1.size ≤ 9223372036854775807
            · rw [if_pos c18] at H
              have c18b0 := eq_true c18
              have c18b1 : decide ((a0 ++ (⟨#[10]⟩ : ByteArray)).size + a1.size ≤ 9223372036854775807) = true := decide_eq_true c18
              have c18x0z : (9223372036854775807 < a0.size + 1 + a1.size) = False := eq_false (by have h := c18; simp only [ByteArray.size_append] at h; have hl0 : (⟨#[10]⟩ : ByteArray).size = 1 := rfl; omega)
              try have c18b2 : (9223372036854775807 < (a0 ++ (⟨#[10]⟩ : ByteArray)).size + a1.size) = False := eq_false (Nat.not_lt.2 c18)
              replace H := Option.bind_eq_some_iff.mp H
              obtain ⟨⟨t466, t467, t468⟩, A190, H⟩ := H
              replace H : (if true = true then (if t468 = 0 then (if t467 = 0 then ((some (([] : List (S30)) : List (S30))).bind fun y471 => (if y471.length + t456.length < 3518437208883 then ((some (y471 ++ t456 : List (S30))).bind fun y474 => (if y474.length + t461.length < 3518437208883 then ((inclinelaw21_same.f kj6 t466 (y474 ++ t461)).bind fun t480 => (some t480)) else (none))) else (none))) else (none)) else (none)) else (none)) = some r := H
              have A19 := Aside0.mk A190
              clear A190
              rw [if_pos rfl] at H
              by_cases c20 : t468 = 0
              · rw [if_pos c20] at H
                have c20b0 : (t468 == 0) = true := beq_iff_eq.mpr c20
                have c20b1 : (t468 != 0) = false := bne_eq_false_iff_eq.mpr c20
                clear c20
                by_cases c21 : t467 = 0
                · rw [if_pos c21] at H
                  have c21b0 : (t467 == 0) = true := beq_iff_eq.mpr c21
                  have c21b1 : (t467 != 0) = false := bne_eq_false_iff_eq.mpr c21
                  clear c21
                  obtain ⟨y471, hy471⟩ : ∃ y_ : List (S30), y_ = (([] : List (S30))) := ⟨_, rfl⟩
                  replace H : (if y471.length + t456.length < 3518437208883 then ((some (y471 ++ t456 : List (S30))).bind fun y474 => (if y474.length + t461.length < 3518437208883 then ((inclinelaw21_same.f kj6 t466 (y474 ++ t461)).bind fun t480 => (some t480)) else (none))) else (none)) = some r := by first | (rw [hy471]; with_reducible exact H) | (have H2_ := (Option.bind_some _ _).symm.trans H; rw [hy471]; with_reducible exact H2_) | (have H2_ := (Option.bind_some _ _).symm.trans H; with_reducible exact H2_) | with_reducible exact H | (rw [hy471]; exact H) | exact H
                  have Ny471 := Aside0.mk hy471
                  clear hy471
                  by_cases c22 : y471.length + t456.length < 3518437208883
                  · rw [if_pos c22] at H
                    have LMc22 := Aside0.mk c22
                    clear c22
                    obtain ⟨y474, hy474⟩ : ∃ y_ : List (S30), y_ = (y471 ++ t456) := ⟨_, rfl⟩
                    replace H : (if y474.length + t461.length < 3518437208883 then ((inclinelaw21_same.f kj6 t466 (y474 ++ t461)).bind fun t480 => (some t480)) else (none)) = some r := by first | (rw [hy474]; with_reducible exact H) | (have H2_ := (Option.bind_some _ _).symm.trans H; rw [hy474]; with_reducible exact H2_) | (have H2_ := (Option.bind_some _ _).symm.trans H; with_reducible exact H2_) | with_reducible exact H | (rw [hy474]; exact H) | exact H
                    have Ny474 := Aside0.mk hy474
                    clear hy474
                    by_cases c23 : y474.length + t461.length < 3518437208883
                    · rw [if_pos c23] at H
                      have LMc23 := Aside0.mk c23
                      clear c23
                      obtain ⟨y477, hy477⟩ : ∃ y_ : List (S30), y_ = (y474 ++ t461) := ⟨_, rfl⟩
                      replace H : ((inclinelaw21_same.f kj6 t466 y477).bind fun t480 => (some t480)) = some r := by first | (rw [hy477]; with_reducible exact H) | (have H2_ := (Option.bind_some _ _).symm.trans H; rw [hy477]; with_reducible exact H2_) | (have H2_ := (Option.bind_some _ _).symm.trans H; with_reducible exact H2_) | with_reducible exact H | (rw [hy477]; exact H) | exact H
                      have Ny477 := Aside0.mk hy477
                      clear hy477
                      replace H := Option.bind_eq_some_iff.mp H
                      obtain ⟨t480, A240, H⟩ := H
                      replace H : (some t480) = some r := H
                      have A24 := Aside0.mk A240
                      clear A240
                      obtain rfl := Option.some.inj H
                      go_wp2_with (first | ((with_reducible refine gate_callee (f := 12) rfl ?_); refine goesL_ (some 59) rfl rfl Tryd.func12 (by kernel_rfl) rfl #[.string ((a0 ++ (⟨#[10]⟩ : ByteArray)) ++ a1)] rfl (by (try simp only [List.map_toArray, List.map_cons, List.map_nil]); first | done | rfl | (simp only [List.length_drop, List.length_take]; rfl)) ?_; (with_reducible refine (script_Parse.calls ((a0 ++ (⟨#[10]⟩ : ByteArray)) ++ a1) t466 t467 t468 _ A19.out).mono ?_); rintro e w25 ⟨v469, rfl, ho0, hb⟩; refine ⟨_, rfl, ?_⟩; have n0_ := Aside0.mk (Kd.N_elder' (by (with_reducible repeat (first | apply Kd.N_alloc | apply Kd.N_drewN | apply Kd.N_drew)); exact HO_6.out) (Kd.N_base (Kd.S_N ho0)) hb); have n1_ := Aside0.mk (Kd.N_elder' (by (with_reducible repeat (first | apply Kd.N_alloc | apply Kd.N_drewN | apply Kd.N_drew)); exact HO_9.out) (Kd.N_base (Kd.S_N ho0)) hb); have n2_ := Aside0.mk (Kd.N_lower (Kd.N_mono (ok' := fun k_ => some k_ ≠ (v459 : Value).ownBlock ∧ some k_ ≠ (v464 : Value).ownBlock) (Kd.S_N (Kd.S_bound ho0)) (fun k_ hk_ => ⟨(Kd.fresh' (Kd.N_lt (by (with_reducible repeat (first | apply Kd.N_alloc | apply Kd.N_drewN | apply Kd.N_drew)); exact HO_6.out)) k_ hk_.2.1), (Kd.fresh' (Kd.N_lt (by (with_reducible repeat (first | apply Kd.N_alloc | apply Kd.N_drewN | apply Kd.N_drew)); exact HO_9.out)) k_ hk_.2.1)⟩)) (below_size (by repeat (first | (with_reducible first | exact HB.out | apply below_alloc | apply pw_below_drewN | apply below_drew1) | exact HB.out)))); have n3_ := Aside0.mk (below_step (by repeat (first | (with_reducible first | exact HB.out | apply below_alloc | apply pw_below_drewN | apply below_drew1) | exact HB.out)) hb); clear HO_6; clear HO_9; clear HB; have HO_6 := n0_; have HO_9 := n1_; have HO470 := n2_; have HB := n3_; clear n0_ n1_ n2_ n3_; (try clear hb); (try clear hb2); (try clear hk); (try clear hi); (try clear ho0)) | ((with_reducible refine gate_dst (N := 74) rfl ?_); (try (refine gate_guard (by rfl) ?_; dsimp only)); refine Kd.N_lit k30 _ 30 ?hg (N' := 74) ?hd (xs := ([] : List (S30))) (inner := []) (ok := (fun k_ => some k_ ≠ (v459 : Value).ownBlock ∧ some k_ ≠ (v464 : Value).ownBlock ∧ some k_ ≠ (v469 : Value).ownBlock)) (okp := (fun k_ => some k_ ≠ (v459 : Value).ownBlock ∧ some k_ ≠ (v464 : Value).ownBlock ∧ some k_ ≠ (v469 : Value).ownBlock)) ?hr ?hp (fun _ hk => hk) ((show ∀ k_, w25.heap.size ≤ k_ → (fun k_ => some k_ ≠ (v459 : Value).ownBlock ∧ some k_ ≠ (v464 : Value).ownBlock ∧ some k_ ≠ (v469 : Value).ownBlock) k_ from fun k_ hk => ⟨Kd.fresh' (Kd.N_lt (by (with_reducible repeat (first | apply Kd.N_alloc | apply Kd.N_drewN | apply Kd.N_drew)); exact HO_6.out)) k_ hk, Kd.fresh' (Kd.N_lt (by (with_reducible repeat (first | apply Kd.N_alloc | apply Kd.N_drewN | apply Kd.N_drew)); exact HO_9.out)) k_ hk, Kd.fresh' (Kd.N_lt (by (with_reducible repeat (first | apply Kd.N_alloc | apply Kd.N_drewN | apply Kd.N_drew)); exact HO470.out)) k_ hk⟩) _ (Nat.le_refl _)) (Below.refl _ _) (Nat.le_refl _) (by simp) ?_; (case hd => rfl); (case hg => rfl); (case hr => first | (go_simp; done) | (go_simp; rfl)); (case hp => exact (Reps.none _ _)); intro v472 w26 ho27 hb hg_ hnew_; clear hg_ hnew_; (first | rw [← Ny471.out] at ho27 | (simp only [Int.reduceToNat] at ho27; rw [← Ny471.out] at ho27)); have n0_ := Aside0.mk (Kd.N_elder' (by (with_reducible repeat (first | apply Kd.N_alloc | apply Kd.N_drewN | apply Kd.N_drew)); exact HO_6.out) (Kd.N_base ho27) hb); have n1_ := Aside0.mk (Kd.N_elder' (by (with_reducible repeat (first | apply Kd.N_alloc | apply Kd.N_drewN | apply Kd.N_drew)); exact HO_9.out) (Kd.N_base ho27) hb); have n2_ := Aside0.mk (Kd.N_elder' (by (with_reducible repeat (first | apply Kd.N_alloc | apply Kd.N_drewN | apply Kd.N_drew)); exact HO470.out) (Kd.N_base ho27) hb); have n3_ := Aside0.mk (Kd.N_lower ho27 (below_size (by repeat (first | (with_reducible first | exact HB.out | apply below_alloc | apply pw_below_drewN | apply below_drew1) | exact HB.out)))); have n4_ := Aside0.mk (below_step (by repeat (first | (with_reducible first | exact HB.out | apply below_alloc | apply pw_below_drewN | apply below_drew1) | exact HB.out)) hb); clear HO_6; clear HO_9; clear HO470; clear HB; have HO_6 := n0_; have HO_9 := n1_; have HO470 := n2_; have HO473 := n3_; have HB := n4_; clear n0_ n1_ n2_ n3_ n4_; clear hb ho27; obtain ⟨Ao29, co29, eo29⟩ := Kd.N_slice HO_6.out; subst eo29) | ((with_reducible refine gate_builtin (b := .append) (xs := #[.tmp 74, .tmp 75]) rfl ?_); (try (refine gate_guard (by rfl) ?_; dsimp only)); at_builtin; refine Kd.N_append_rows k30 (w0 := w) w.heap.size rfl (.tmp 74) (.tmp 75) 23 30 (.agg #[(.string ⟨#[]⟩), (.slice none 0 0)]) 40 rfl Tryd.underlying23 info30 rfl (by decide) (by omega) v472 y471 t456 _ _ _ (fun k_ => some k_ ≠ (v464 : Value).ownBlock ∧ some k_ ≠ (v469 : Value).ownBlock) (fun k_ => ((fun k_ => some k_ ≠ (v464 : Value).ownBlock ∧ some k_ ≠ (v469 : Value).ownBlock)) k_ ∧ some k_ ≠ (v472 : Value).ownBlock) rfl rfl ?aO ?aR (fun _ hk => hk) ?aF ?aB ?aS ?aL ?_; (case aR => exact (by skip; exact Kd.N_F (Kd.N_mono (ok' := (fun k_ => ((fun k_ => some k_ ≠ (v464 : Value).ownBlock ∧ some k_ ≠ (v469 : Value).ownBlock)) k_ ∧ some k_ ≠ (v472 : Value).ownBlock)) (HO_6.out) (fun k_ hk => ⟨⟨hk.1.1, hk.1.2⟩, hk.2⟩)))); (case aB => exact (by repeat (first | (with_reducible first | exact HB.out | apply below_alloc | apply pw_below_drewN | apply below_drew1) | exact HB.out))); (case aF => exact (fun k_ hk => ⟨Kd.fresh' (Kd.N_lt (by (with_reducible repeat (first | apply Kd.N_alloc | apply Kd.N_drewN | apply Kd.N_drew)); exact HO_9.out)) k_ hk, Kd.fresh' (Kd.N_lt (by (with_reducible repeat (first | apply Kd.N_alloc | apply Kd.N_drewN | apply Kd.N_drew)); exact HO470.out)) k_ hk⟩)); (case aO => exact (by (with_reducible repeat (first | apply Kd.N_alloc | apply Kd.N_drewN | apply Kd.N_drew)); exact Kd.N_mono HO473.out (fun _ hk => ⟨hk.2.1, hk.2.2⟩))); (case aS => exact (below_size (by repeat (first | (with_reducible first | exact HB.out | apply below_alloc | apply pw_below_drewN | apply below_drew1) | exact HB.out)))); (case aL => have := LMc22.out; omega); intro v475 w28 ho hb hg hat; rw [← Ny474.out] at ho; have n0_ := Aside0.mk (Kd.N_afterv (ok := (fun k_ => some k_ ≠ (v464 : Value).ownBlock ∧ some k_ ≠ (v469 : Value).ownBlock)) (by (with_reducible repeat (first | apply Kd.N_alloc | apply Kd.N_drewN | apply Kd.N_drew)); exact HO_6.out) hg hat); have n1_ := Aside0.mk (Kd.N_afterv (ok := (fun k_ => some k_ ≠ (.slice Ao29 t456.length co29 : Value).ownBlock ∧ some k_ ≠ (v469 : Value).ownBlock)) (by (with_reducible repeat (first | apply Kd.N_alloc | apply Kd.N_drewN | apply Kd.N_drew)); exact HO_9.out) hg hat); have n2_ := Aside0.mk (Kd.N_afterv (ok := (fun k_ => some k_ ≠ (.slice Ao29 t456.length co29 : Value).ownBlock ∧ some k_ ≠ (v464 : Value).ownBlock)) (by (with_reducible repeat (first | apply Kd.N_alloc | apply Kd.N_drewN | apply Kd.N_drew)); exact HO470.out) hg hat); have n3_ := Aside0.mk (hb); have n4_ := Aside0.mk (ho); clear HO_6; clear HO_9; clear HO470; clear HB; clear HO473; have HO_6 := n0_; have HO_9 := n1_; have HO470 := n2_; have HB := n3_; have HO476 := n4_; clear n0_ n1_ n2_ n3_ n4_; clear ho hb hg hat; obtain ⟨Ao31, co31, eo31⟩ := Kd.N_slice HO_9.out; subst eo31) | ((with_reducible refine gate_builtin (b := .append) (xs := #[.tmp 76, .tmp 77]) rfl ?_); (try (refine gate_guard (by rfl) ?_; dsimp only)); at_builtin; refine Kd.N_append_rows k30 (w0 := w) w.heap.size rfl (.tmp 76) (.tmp 77) 23 30 (.agg #[(.string ⟨#[]⟩), (.slice none 0 0)]) 40 rfl Tryd.underlying23 info30 rfl (by decide) (by omega) v475 y474 t461 _ _ _ (fun k_ => some k_ ≠ (v469 : Value).ownBlock) (fun k_ => ((fun k_ => some k_ ≠ (v469 : Value).ownBlock)) k_ ∧ some k_ ≠ (v475 : Value).ownBlock) rfl rfl ?aO ?aR (fun _ hk => hk) ?aF ?aB ?aS ?aL ?_; (case aR => exact (by skip; exact Kd.N_F (Kd.N_mono (ok' := (fun k_ => ((fun k_ => some k_ ≠ (v469 : Value).ownBlock)) k_ ∧ some k_ ≠ (v475 : Value).ownBlock)) (HO_9.out) (fun k_ hk => ⟨hk.1.2, hk.2⟩)))); (case aB => exact (by repeat (first | (with_reducible first | exact HB.out | apply below_alloc | apply pw_below_drewN | apply below_drew1) | exact HB.out))); (case aF => exact (fun k_ hk => Kd.fresh' (Kd.N_lt (by (with_reducible repeat (first | apply Kd.N_alloc | apply Kd.N_drewN | apply Kd.N_drew)); exact HO470.out)) k_ hk)); (case aO => exact (by (with_reducible repeat (first | apply Kd.N_alloc | apply Kd.N_drewN | apply Kd.N_drew)); exact Kd.N_mono HO476.out (fun _ hk => hk.2))); (case aS => exact (below_size (by repeat (first | (with_reducible first | exact HB.out | apply below_alloc | apply pw_below_drewN | apply below_drew1) | exact HB.out)))); (case aL => have := LMc23.out; omega); intro v478 w30 ho hb hg hat; rw [← Ny477.out] at ho; have n0_ := Aside0.mk (Kd.N_afterv (ok := (fun k_ => some k_ ≠ (.slice Ao31 t461.length co31 : Value).ownBlock ∧ some k_ ≠ (v469 : Value).ownBlock)) (by (with_reducible repeat (first | apply Kd.N_alloc | apply Kd.N_drewN | apply Kd.N_drew)); exact HO_6.out) hg hat); have n1_ := Aside0.mk (Kd.N_afterv (ok := (fun k_ => some k_ ≠ (.slice Ao29 t456.length co29 : Value).ownBlock ∧ some k_ ≠ (v469 : Value).ownBlock)) (by (with_reducible repeat (first | apply Kd.N_alloc | apply Kd.N_drewN | apply Kd.N_drew)); exact HO_9.out) hg hat); have n2_ := Aside0.mk (Kd.N_afterv (ok := (fun k_ => some k_ ≠ (.slice Ao29 t456.length co29 : Value).ownBlock ∧ some k_ ≠ (.slice Ao31 t461.length co31 : Value).ownBlock)) (by (with_reducible repeat (first | apply Kd.N_alloc | apply Kd.N_drewN | apply Kd.N_drew)); exact HO470.out) hg hat); have n3_ := Aside0.mk (hb); have n4_ := Aside0.mk (ho); clear HO_6; clear HO_9; clear HO470; clear HB; clear HO476; have HO_6 := n0_; have HO_9 := n1_; have HO470 := n2_; have HB := n3_; have HO479 := n4_; clear n0_ n1_ n2_ n3_ n4_; clear ho hb hg hat; obtain ⟨Ao32, co32, eo32⟩ := Kd.N_slice HO470.out; subst eo32; obtain ⟨Ao33, co33, eo33⟩ := Kd.N_slice HO479.out; subst eo33) | (go_at_call 14; (with_reducible refine (inclinelaw21_same.calls kj6 _ _ t466 _ _ y477 t480 _ ?side1 ?side2 ?side3 ?side4 A24.out).mono ?_); (case side1 => repeat (first | exact (Kd.N_reads' HO470.out).2.2 | (with_reducible refine Kd.C_alloc ?_ _) | (with_reducible refine Kd.C_drewN ?_ _) | (with_reducible refine Kd.C_drew ?_))); (case side2 => exact (Kd.N_reads' HO470.out).2.1); (case side3 => repeat (first | exact (Kd.N_reads' HO479.out).2.2 | (with_reducible refine Kd.C_alloc ?_ _) | (with_reducible refine Kd.C_drewN ?_ _) | (with_reducible refine Kd.C_drew ?_))); (case side4 => exact (Kd.N_reads' HO479.out).2.1); rintro e w' ⟨rfl, ⟨nd, rfl⟩⟩))
                      go_ret
                      exact ⟨by first | rfl | (simp [errW_none, errW_some] <;> rfl) | (simp [*, errW_none, errW_some] <;> rfl), by repeat (first | (with_reducible first | exact HB.out | apply below_alloc | apply pw_below_drewN | apply below_drew1) | exact HB.out)⟩
                    · rw [if_neg c23] at H
                      exact absurd H (by simp)
                  · rw [if_neg c22] at H
                    exact absurd H (by simp)
                · rw [if_neg c21] at H
                  exact absurd H (by simp)
              · rw [if_neg c20] at H
                exact absurd H (by simp)
            · rw [if_neg c18] at H
              exact absurd H (by simp)
          · rw [if_neg c17] at H
            exact absurd H (by simp)
  · replace c4 := Bool.eq_false_iff.mpr c4
    subst c4
    have H1 : (none) = some r := by rw [if_neg (show ¬ (false = true) by decide)] at H; exact H
    clear H
    have H := H1
    clear H1
    exact absurd H (by simp)

/-- THE ONE PURE STATEMENT of inclinelaw21_ScriptJoined: yours. -/
def inclinelaw21_ScriptJoined.Pure : Prop := ∀ (a0 : ByteArray) (a1 : ByteArray), a0.size ≤ 140737488351232 → a1.size ≤ 140737488351232 → ∃ k, inclinelaw21_ScriptJoined.f k a0 a1 = some true
end Go.Proofs.YtlfoaaeelcmhiaaDoor.G
end

section
/- ScriptJoined: its plain law, its walk. -/
namespace Go.Proofs.YtlfoaaeelcmhiaaDoor
open Go.RowKit Go.Proofs.YtlfoaaeelcmhiaaDoor.Reading G
open Go.Proofs.YtlfoaaeelcmhiaaDoorW.PrintWords hiding nums
set_option linter.unusedVariables false
theorem Pure.joined_w (n m : Nat) (h : n ≤ 65536) (h2 : m ≤ 65536) : wrap64 ((n : Int) + 1) = (n : Int) + 1 ∧ wrap64 ((n : Int) + 1 + (m : Int)) = (n : Int) + 1 + (m : Int) := by
  unfold wrap64
  omega
theorem Pure.ScriptJoined (a b : ByteArray) (ha : a.size ≤ 140737488351232) (hb : b.size ≤ 140737488351232) : ∃ k, inclinelaw21_ScriptJoined.f k a b = some true := by
  obtain ⟨K, hK⟩ := shown_is
  have spa := parseT_spec (bl a)
  have spb := parseT_spec (bl b)
  obtain ⟨⟨l, x, e⟩, hpa⟩ : ∃ p, parseT (bl a) = p := ⟨_, rfl⟩
  obtain ⟨⟨m, y, f⟩, hpb⟩ : ∃ p, parseT (bl b) = p := ⟨_, rfl⟩
  rw [hpa] at spa
  rw [hpb] at spb
  simp only [] at spa spb
  have hia := parse_is a
  have hib := parse_is b
  rw [hpa] at hia
  rw [hpb] at hib
  simp only [] at hia hib
  have early : ∀ k, K ≤ k → ∃ k', inclinelaw21_ScriptJoined.j0 (k + 1) a b true (l.map toS) (m.map toS) true = some true := fun k _ => ⟨k, by simp only [inclinelaw21_ScriptJoined.j0]; rw [if_pos trivial]⟩
  have hearly : ∀ k, inclinelaw21_ScriptJoined.j0 (k + 1) a b true (l.map toS) (m.map toS) true = some true := fun k => by simp only [inclinelaw21_ScriptJoined.j0]; rw [if_pos trivial]
  by_cases he : e = 0
  · by_cases hf : f = 0
    · subst he hf
      obtain ⟨_, a2, a3, a4, a5⟩ := spa.1 rfl
      obtain ⟨_, b2, b3, b4, b5⟩ := spb.1 rfl
      rw [bl_length] at a5 b5
      by_cases hlong : 65536 < a.size + 1 + b.size
      · refine ⟨K + 1, ?_⟩
        unfold inclinelaw21_ScriptJoined.f
        rw [hK _ (by omega), Option.bind_some, if_pos rfl, hia, Option.bind_some, hib, Option.bind_some]
        simp only []
        rw [if_pos trivial, if_pos trivial, (joined_w a.size b.size (by omega) (by omega)).1, (joined_w a.size b.size (by omega) (by omega)).2, if_pos (by omega)]
        exact hearly K
      · by_cases hmany : 4096 < l.length + m.length
        · refine ⟨K + 1, ?_⟩
          unfold inclinelaw21_ScriptJoined.f
          rw [hK _ (by omega), Option.bind_some, if_pos rfl, hia, Option.bind_some, hib, Option.bind_some]
          simp only []
          rw [if_pos trivial, if_pos trivial, (joined_w a.size b.size (by omega) (by omega)).1, (joined_w a.size b.size (by omega) (by omega)).2, if_neg (by omega), List.length_map, List.length_map, w64 (by omega) (by omega), decide_eq_true (show (l.length : Int) + (m.length : Int) > 4096 from by omega)]
          exact hearly K
        · have hj := parse_joined (bl a) (bl b) l m x y hpa hpb (by rw [bl_length, bl_length]; omega) (by omega)
          have hbl : bl ((a ++ (⟨#[10]⟩ : ByteArray)) ++ b) = bl a ++ [10] ++ bl b := by rw [bl_append, bl_append]; rfl
          obtain ⟨K2, hK2⟩ := same_cmds (l ++ m) (fun c hc => (List.mem_append.1 hc).elim (a2 c) (b2 c)) (by rw [List.length_append]; omega)
          refine ⟨K + K2 + 1, ?_⟩
          have h10 : (⟨#[10]⟩ : ByteArray).size = 1 := rfl
          unfold inclinelaw21_ScriptJoined.f
          rw [hK _ (by omega), Option.bind_some, if_pos rfl, hia, Option.bind_some, hib, Option.bind_some]
          simp only []
          rw [if_pos trivial, if_pos trivial, (joined_w a.size b.size (by omega) (by omega)).1, (joined_w a.size b.size (by omega) (by omega)).2, if_neg (by omega), List.length_map, List.length_map, w64 (by omega) (by omega), decide_eq_false (show ¬ (l.length : Int) + (m.length : Int) > 4096 from by omega)]
          simp only [inclinelaw21_ScriptJoined.j0]
          rw [if_neg (by decide), if_pos (by omega), if_pos (by rw [ByteArray.size_append]; omega), parse_is, hbl, hj, Option.bind_some]
          simp only []
          rw [if_pos trivial, if_pos trivial, if_pos trivial, Option.bind_some, if_pos (by simp only [List.length_nil, List.length_map]; omega), Option.bind_some, if_pos (by simp only [List.nil_append, List.length_map]; omega), List.nil_append, ← List.map_append, hK2 _ (by omega)]
          rfl
    · subst he
      refine ⟨K + 1, ?_⟩
      unfold inclinelaw21_ScriptJoined.f
      rw [hK _ (by omega), Option.bind_some, if_pos rfl, hia, Option.bind_some, hib, Option.bind_some]
      simp only []
      rw [if_pos trivial, if_neg hf]
      exact hearly K
  · refine ⟨K + 1, ?_⟩
    unfold inclinelaw21_ScriptJoined.f
    rw [hK _ (by omega), Option.bind_some, if_pos rfl, hia, Option.bind_some, hib, Option.bind_some]
    simp only []
    rw [if_neg he]
    exact hearly K
theorem Walks.ScriptJoined {w : World} (hT : Tabs w) (a0 : ByteArray) (hs0 : a0.size ≤ reach) (a1 : ByteArray) (hs1 : a1.size ≤ reach) : Calls Tryd.prog 10 #[.string a0, .string a1] w fun e w' => e = .returned (.bool true) ∧ Below w.heap.size w w' := by
  obtain ⟨k, hk⟩ := Pure.ScriptJoined a0 a1 hs0 hs1
  exact inclinelaw21_ScriptJoined.calls k a0 a1 true w hT hk
end Go.Proofs.YtlfoaaeelcmhiaaDoor
end

section
/- The row of ScriptJoined: for every input the law answers true, and each argument reads as it did. Out of its walk (Walks.ScriptJoined). -/
namespace Go.Proofs.YtlfoaaeelcmhiaaDoor.rowScriptJoined
open Go.ChangeShapes Go.WideShapes Go.ChangeAt Go.RowKit Go.Proofs.YtlfoaaeelcmhiaaDoor.Reading
open Go.ChangeMaps (open_string shut_string)
set_option linter.unusedVariables false
theorem own : ownKnob Tryd.prog.godebug = none := by kernel_rfl
theorem laidOut : laidOutB Tryd.prog = true := by kernel_rfl
set_option maxRecDepth 100000 in
theorem contract (H : Type) (enc : TypeId × Value → H) (W : World) (base : Nat) (args : Array Value) (ds gs : List (DataW H)) (before : List MemPlace)
    (hval0 : ∀ (j : Nat) t v, Tryd.f10.params[j]? = some t → args[j]? = some v → Value.okWide Tryd.prog W .any base t v)
    (hW : DataW.Whole enc Tryd.prog Tryd.f10.params.toList Rows.scriptJoinedSpec.vars false W args.toList ds gs before) (hL : laidMetH Tryd.prog Rows.scriptJoinedRow.laid W)
    (hsz0 : (DataW.weightsEach Tryd.prog (Tryd.f10.params.toList ++ Rows.scriptJoinedSpec.plain.varTypes Tryd.prog) (ds ++ gs)).all (· ≤ reachBytes) = true) :
    Calls Tryd.prog 10 args W fun e W' => ∃ v, e = .returned v ∧ Rows.scriptJoinedSpec.post enc Tryd.prog Tryd.f10 false true false false W args v W' := by
  have hval := hval0
  have hsz := hsz0
  have hW' := hW
  obtain ⟨p, q, hA0, hV, rfl, hfz, hnd⟩ := hW
  have hA : DataW.TrodAll enc Tryd.prog W 0 (fun _ => true) true Tryd.f10.params.toList args.toList ds p := hA0
  rw [Tryd.params10] at hA hval hsz
  obtain ⟨v0, vs0, d0, ds0, p0, q0, hargs, rfl, rfl, h0, r0⟩ := trodAll_cons hA
  obtain ⟨v1, vs1, d1, ds1, p1, q1, rfl, rfl, rfl, h1, r1⟩ := trodAll_cons r0
  obtain ⟨rfl, rfl, rfl⟩ := trodAll_nil r1
  obtain rfl : args = #[v0, v1] := by cases args; simp_all
  obtain ⟨rfl, rfl⟩ := trodVars_none hV
  have hwt := weights_at hsz
  have k0 := h0
  have lt0 : ∀ x ∈ p0, x.block < W.heap.size := by obtain ⟨m, hm⟩ := k0; exact DataW.trod_lt m _ _ _ hm
  have wt0 : ∀ n ∈ DataW.weights Tryd.prog 9 d0, n ≤ reach := fun n hn => hwt n (by simp only [List.cons_append, List.nil_append, List.append_nil, DataW.weightsEach, List.mem_append]; first | exact hn | exact (.inl hn) | exact hn)
  obtain ⟨a0, rfl, rfl, rfl, w0⟩ := open_string Tryd.underlying9 (hval 0 9 v0 rfl rfl) h0
  have hs0 : a0.size ≤ reach := by have := wt0 a0.data.toList.length (by simp [DataW.weights]); have e : a0.data.toList.length = a0.size := by (rw [Array.length_toList]; rfl)
                                   omega
  have k1 := h1
  have lt1 : ∀ x ∈ p1, x.block < W.heap.size := by obtain ⟨m, hm⟩ := k1; exact DataW.trod_lt m _ _ _ hm
  have wt1 : ∀ n ∈ DataW.weights Tryd.prog 9 d1, n ≤ reach := fun n hn => hwt n (by simp only [List.cons_append, List.nil_append, List.append_nil, DataW.weightsEach, List.mem_append]; first | exact hn | exact (.inr (.inl hn)) | exact (.inr hn))
  obtain ⟨a1, rfl, rfl, rfl, w1⟩ := open_string Tryd.underlying9 (hval 1 9 v1 rfl rfl) h1
  have hs1 : a1.size ≤ reach := by have := wt1 a1.data.toList.length (by simp [DataW.weights]); have e : a1.data.toList.length = a1.size := by (rw [Array.length_toList]; rfl)
                                   omega
  clear hA0 hval0 hsz0 hsz
  refine (Walks.ScriptJoined (tabs_of hL) a0 hs0 a1 hs1).mono fun e W' ⟨he, bel⟩ => ?_
  subst he
  exact ⟨_, rfl, _, _, _, [], _, [], hW', trodAll_mk1 (shut_bool Tryd.underlying4 _), (trodAll_cons_mk (Below.trod laidOut (by kernel_rfl) (of_decide_eq_true (by kernel_rfl)) k0 bel lt0) (trodAll_cons_mk (Below.trod laidOut (by kernel_rfl) (of_decide_eq_true (by kernel_rfl)) k1 bel lt1) trodAll_mk0)), rfl, bel.frame _, fun h => by cases h⟩
set_option maxRecDepth 100000 in
theorem lifted (os : Os) (started : os.Started) (H : Type) (enc : TypeId × Value → H) (F : Stop.Interp) :
    ReturnsInHanded {} Tryd.checked os 10 .any ((OpenSpec.ofChange Rows.scriptJoinedSpec).preRow enc Tryd.prog Tryd.f10 Rows.scriptJoinedRow.domain false Rows.scriptJoinedRow.laid) (((OpenSpec.ofChange Rows.scriptJoinedSpec).at F).post enc Tryd.prog Tryd.f10 false true false false) := by
  obtain ⟨places, hx⟩ : ∃ places, DataW.whole enc Tryd.prog ((laidWorld os).forCall (fun _ _ => 0) ⟨#[], #[.string ByteArray.empty, .string ByteArray.empty], []⟩).memory Tryd.f10.params.toList Rows.scriptJoinedSpec.vars false (#[.string ByteArray.empty, .string ByteArray.empty] : Array Value).toList 8 = some ([.lit (.string []), .lit (.string [])], [], places) := ⟨[], by kernel_rfl⟩
  refine returnsInHanded_of_row (C := Tryd.checked) (s := (OpenSpec.ofChange Rows.scriptJoinedSpec)) own started (by kernel_rfl) Tryd.func10
    (witness_row_at (enc := enc) (C := Tryd.checked) false (laidWorld os) #[.string ByteArray.empty, .string ByteArray.empty] rfl (by kernel_rfl) (by kernel_rfl) (by kernel_rfl)
      (OpenSpec.preRow_of_cond 8 hx (by kernel_rfl) (fun k hk => by cases hk) (by kernel_rfl) (laid_met os _))) ?_
  intro W base args ds gs before hval hW _ hcond hsz hL _ _
  exact contract H enc W base args ds gs before hval hW hL hsz
theorem over : Rows.scriptJoinedRow.holds Tryd.pinned (OpenSpec.ofChange Rows.scriptJoinedSpec) :=
  OpenClaim.holds_of_cond 10 Tryd.f10 rfl rfl rfl rfl rfl rfl rfl ⟨rfl, rfl, rfl, rfl, rfl⟩ rfl rfl rfl rfl rfl (by kernel_rfl) Tryd.func10 (by kernel_rfl)
    (of_decide_eq_true (by kernel_rfl)) (by unfold Func.isWrapper; first | (rw [if_pos (by decide +kernel)]; kernel_rfl) | (rw [if_neg (by decide +kernel)]; exact ⟨rfl, rfl⟩))
    (fun os started H enc _ F => by rw [OpenClaim.pre_eq_preRow]; exact lifted os started H enc F)
theorem plain (f : FuncId) (fn : Func) (hf : Tryd.pinned.checked.prog.funcNamed "incline/inclinelaw21.ScriptJoined" = some f) (hfn : Tryd.pinned.checked.prog.funcs[f]? = some fn) :
    false = Tryd.pinned.checked.prog.looks [] ∧ ∀ (j : Nat) t, fn.params[j]? = some t → Tryd.pinned.checked.prog.wantsStandIn t = false := by
  obtain rfl : f = 10 := Option.some.inj ((show Tryd.prog.funcNamed "incline/inclinelaw21.ScriptJoined" = some 10 by kernel_rfl).symm.trans hf) |>.symm
  obtain rfl : fn = Tryd.f10 := (Option.some.inj (Tryd.func10.symm.trans hfn)).symm
  refine ⟨by kernel_rfl, fun j t ht => ?_⟩
  rw [Tryd.params10] at ht
  have hm : t ∈ [9, 9] := by simpa using Array.mem_of_getElem? ht
  have hall : ([9, 9].all fun u => !Tryd.prog.wantsStandIn u) = true := by kernel_rfl
  exact (show Tryd.prog.wantsStandIn t = false by simpa using List.all_eq_true.1 hall t hm)
end Go.Proofs.YtlfoaaeelcmhiaaDoor.rowScriptJoined
namespace Go.Proofs.YtlfoaaeelcmhiaaDoor
/-- The card. -/
theorem scriptJoined_holds : Rows.ScriptJoinedCardSaid :=
  Claim7.holds_tied_plain_at .later [] _ _ _ _ rowScriptJoined.over (fun _ h => by cases h) (by kernel_rfl) (fun _ h => by cases h) scriptJoined_row_tie rfl ⟨rfl, rfl⟩ (by kernel_rfl) rfl rowScriptJoined.plain (by kernel_rfl)
#print axioms scriptJoined_holds
end Go.Proofs.YtlfoaaeelcmhiaaDoor
end
