/- The last of the claim's own texts, in one file: Gx32, WalkAgain, RowScriptAgain. Conditions: each theorem's own. -/
import Derived.Test.YtlfoaaeelcmhiaaDoorZBase1
import Derived.Test.YtlfoaaeelcmhiaaDoorZBase2
import Derived.Test.YtlfoaaeelcmhiaaDoorZBase4
import Derived.Test.YtlfoaaeelcmhiaaDoorRows
import Derived.Test.YtlfoaaeelcmhiaaDoorCards
import Derived.Test.YtlfoaaeelcmhiaaDoorTie
import Derived.WalkKit
import Derived.ProofKit
import Derived.OpenShut
import Derived.ShutString
import Derived.ChangeOld
import Derived.Below
import Derived.SizedLaws
import Derived.JoinedCond
import Derived.Deep.CondSized
section
-- Written by a program of this session (wip/gprint.py: the kit's print, with contracts proved by hand)
namespace Go.Proofs.YtlfoaaeelcmhiaaDoor.G
open Go.RowKit Go.Proofs.YtlfoaaeelcmhiaaDoorW.PrintWords Go.Proofs.YtlfoaaeelcmhiaaDoorW.PrintLast Go.Proofs.YtlfoaaeelcmhiaaDoorW.PrintMore
attribute [local go_sem] max2_int min2_int max_two min_two max_three min_three max_four min_four   -- for this text's walks alone
set_option linter.unusedVariables false
set_option linter.unusedSimpArgs false

/-! ### inclinelaw21_ScriptAgain: function 8 -/
def inclinelaw21_ScriptAgain.f (k : Nat) (a0 : ByteArray) : Option (Bool) := (inclinelaw21_shown.f k).bind fun t411 => (if t411 = true then ((script_Parse.f a0).bind fun bt412 => (if bt412.2.2 = 0 then ((script_Print.f k bt412.1).bind fun bt417 => (if bt417.2 = 0 then ((script_Parse.f bt417.1).bind fun bt419 => (if bt412.2.1 = 0 then ((inclinelaw21_same.f k bt419.1 bt412.1).bind fun t424 => (if t424 = true then (if bt419.2.2 = 0 then (some (decide ((bt417.1.size : Int) ≤ (wrap64 ((a0.size : Int) + 1))))) else (none)) else (none))) else (none))) else (if bt417.2 = 210 then (some ((a0.size : Int) == 65536)) else (none)))) else (if (bt412.1.length : Int) = 0 then (if bt412.2.1 > 0 then (some true) else (some (decide ((a0.size : Int) > 65536)))) else (none)))) else (none))
theorem inclinelaw21_ScriptAgain.mono : ∀ a0 k, LeO (inclinelaw21_ScriptAgain.f k a0) (inclinelaw21_ScriptAgain.f (k + 1) a0) := by
  intro a0 k
  unfold inclinelaw21_ScriptAgain.f
  repeat' first
      | (with_reducible exact inclinelaw21_same.mono _ _ _)
      | (with_reducible exact inclinelaw21_shown.mono _)
      | (with_reducible exact script_Print.mono _ _)
      | (with_reducible exact LeO.refl _)
      | (with_reducible exact LeO.none _)
      | (with_reducible refine LeO.ite ?_ ?_)
      | (with_reducible refine LeO.bind ?_ (fun _ => ?_))
      | exact inclinelaw21_same.mono _ _ _
      | exact inclinelaw21_shown.mono _
      | exact script_Print.mono _ _
      | exact LeO.none _
      | refine LeO.ite ?_ ?_
      | refine LeO.bind ?_ (fun _ => ?_)
set_option maxHeartbeats 8000000 in
set_option maxRecDepth 100000 in
theorem inclinelaw21_ScriptAgain.calls (k : Nat) (a0 : ByteArray) (r : Bool) (w : World) (hT : Tabs w) (h : inclinelaw21_ScriptAgain.f k a0 = some r) :
    Calls Tryd.prog 8 #[.string a0] w fun e w' => e = .returned (.bool r) ∧ Below w.heap.size w w' := by
  have HT := Aside0.mk hT
  clear hT
  have HB := Aside0.mk (Below.refl w.heap.size w)
  have H : ((inclinelaw21_shown.f k).bind fun t411 => (if t411 = true then ((script_Parse.f a0).bind fun bt412 => (if bt412.2.2 = 0 then ((script_Print.f k bt412.1).bind fun bt417 => (if bt417.2 = 0 then ((script_Parse.f bt417.1).bind fun bt419 => (if bt412.2.1 = 0 then ((inclinelaw21_same.f k bt419.1 bt412.1).bind fun t424 => (if t424 = true then (if bt419.2.2 = 0 then (some (decide ((bt417.1.size : Int) ≤ (wrap64 ((a0.size : Int) + 1))))) else (none)) else (none))) else (none))) else (if bt417.2 = 210 then (some ((a0.size : Int) == 65536)) else (none)))) else (if (bt412.1.length : Int) = 0 then (if bt412.2.1 > 0 then (some true) else (some (decide ((a0.size : Int) > 65536)))) else (none)))) else (none))) = some r := h
  clear h
  replace H := Option.bind_eq_some_iff.mp H
  obtain ⟨t411, A20, H⟩ := H
  replace H : (if t411 = true then ((script_Parse.f a0).bind fun bt412 => (if bt412.2.2 = 0 then ((script_Print.f k bt412.1).bind fun bt417 => (if bt417.2 = 0 then ((script_Parse.f bt417.1).bind fun bt419 => (if bt412.2.1 = 0 then ((inclinelaw21_same.f k bt419.1 bt412.1).bind fun t424 => (if t424 = true then (if bt419.2.2 = 0 then (some (decide ((bt417.1.size : Int) ≤ (wrap64 ((a0.size : Int) + 1))))) else (none)) else (none))) else (none))) else (if bt417.2 = 210 then (some ((a0.size : Int) == 65536)) else (none)))) else (if (bt412.1.length : Int) = 0 then (if bt412.2.1 > 0 then (some true) else (some (decide ((a0.size : Int) > 65536)))) else (none)))) else (none)) = some r := H
  have A2 := Aside0.mk A20
  clear A20
  by_cases c3 : t411 = true
  · subst c3
    have H1 : ((script_Parse.f a0).bind fun bt412 => (if bt412.2.2 = 0 then ((script_Print.f k bt412.1).bind fun bt417 => (if bt417.2 = 0 then ((script_Parse.f bt417.1).bind fun bt419 => (if bt412.2.1 = 0 then ((inclinelaw21_same.f k bt419.1 bt412.1).bind fun t424 => (if t424 = true then (if bt419.2.2 = 0 then (some (decide ((bt417.1.size : Int) ≤ (wrap64 ((a0.size : Int) + 1))))) else (none)) else (none))) else (none))) else (if bt417.2 = 210 then (some ((a0.size : Int) == 65536)) else (none)))) else (if (bt412.1.length : Int) = 0 then (if bt412.2.1 > 0 then (some true) else (some (decide ((a0.size : Int) > 65536)))) else (none)))) = some r := by rw [if_pos rfl] at H; exact H
    clear H
    have H := H1
    clear H1
    replace H := Option.bind_eq_some_iff.mp H
    obtain ⟨⟨t412, t413, t414⟩, A40, H⟩ := H
    replace H : (if t414 = 0 then ((script_Print.f k t412).bind fun bt417 => (if bt417.2 = 0 then ((script_Parse.f bt417.1).bind fun bt419 => (if t413 = 0 then ((inclinelaw21_same.f k bt419.1 t412).bind fun t424 => (if t424 = true then (if bt419.2.2 = 0 then (some (decide ((bt417.1.size : Int) ≤ (wrap64 ((a0.size : Int) + 1))))) else (none)) else (none))) else (none))) else (if bt417.2 = 210 then (some ((a0.size : Int) == 65536)) else (none)))) else (if (t412.length : Int) = 0 then (if t413 > 0 then (some true) else (some (decide ((a0.size : Int) > 65536)))) else (none))) = some r := H
    have A4 := Aside0.mk A40
    clear A40
    by_cases c5 : t414 = 0
    · rw [if_pos c5] at H
      have c5b0 : (t414 == 0) = true := beq_iff_eq.mpr c5
      have c5b1 : (t414 != 0) = false := bne_eq_false_iff_eq.mpr c5
      clear c5
      replace H := Option.bind_eq_some_iff.mp H
      obtain ⟨⟨t417, t418⟩, A60, H⟩ := H
      replace H : (if t418 = 0 then ((script_Parse.f t417).bind fun bt419 => (if t413 = 0 then ((inclinelaw21_same.f k bt419.1 t412).bind fun t424 => (if t424 = true then (if bt419.2.2 = 0 then (some (decide ((t417.size : Int) ≤ (wrap64 ((a0.size : Int) + 1))))) else (none)) else (none))) else (none))) else (if t418 = 210 then (some ((a0.size : Int) == 65536)) else (none))) = some r := H
      have A6 := Aside0.mk A60
      clear A60
      by_cases c7 : t418 = 0
      · rw [if_pos c7] at H
        have c7b0 : (t418 == 0) = true := beq_iff_eq.mpr c7
        have c7b1 : (t418 != 0) = false := bne_eq_false_iff_eq.mpr c7
        clear c7
        replace H := Option.bind_eq_some_iff.mp H
        obtain ⟨⟨t419, t420, t421⟩, A80, H⟩ := H
        replace H : (if t413 = 0 then ((inclinelaw21_same.f k t419 t412).bind fun t424 => (if t424 = true then (if t421 = 0 then (some (decide ((t417.size : Int) ≤ (wrap64 ((a0.size : Int) + 1))))) else (none)) else (none))) else (none)) = some r := H
        have A8 := Aside0.mk A80
        clear A80
        by_cases c9 : t413 = 0
        · rw [if_pos c9] at H
          have c9b0 : (t413 == 0) = true := beq_iff_eq.mpr c9
          have c9b1 : (t413 != 0) = false := bne_eq_false_iff_eq.mpr c9
          clear c9
          replace H := Option.bind_eq_some_iff.mp H
          obtain ⟨t424, A100, H⟩ := H
          replace H : (if t424 = true then (if t421 = 0 then (some (decide ((t417.size : Int) ≤ (wrap64 ((a0.size : Int) + 1))))) else (none)) else (none)) = some r := H
          have A10 := Aside0.mk A100
          clear A100
          by_cases c11 : t424 = true
          · subst c11
            have H1 : (if t421 = 0 then (some (decide ((t417.size : Int) ≤ (wrap64 ((a0.size : Int) + 1))))) else (none)) = some r := by rw [if_pos rfl] at H; exact H
            clear H
            have H := H1
            clear H1
            by_cases c12 : t421 = 0
            · rw [if_pos c12] at H
              have c12b0 : (t421 == 0) = true := beq_iff_eq.mpr c12
              have c12b1 : (t421 != 0) = false := bne_eq_false_iff_eq.mpr c12
              clear c12
              obtain rfl := Option.some.inj H
              go_enter Tryd.func8, Tryd.ntmps8
              go_wp2_with (first | ((with_reducible refine gate_callee (f := 11) rfl ?_); refine goesL_ (some 12) rfl rfl Tryd.func11 (by kernel_rfl) rfl #[] rfl (by (try simp only [List.map_toArray, List.map_cons, List.map_nil]); first | done | rfl | (simp only [List.length_drop, List.length_take]; rfl)) ?_; (with_reducible refine (inclinelaw21_shown.calls k  true _ ?sideT A2.out).mono ?_); (case sideT => exact Tabs.keep HT.out (by repeat (first | (with_reducible first | exact HB.out | apply below_alloc | apply pw_below_drewN | apply below_drew1) | exact HB.out))); rintro e w13 ⟨rfl, hb⟩; refine ⟨_, rfl, ?_⟩; have n0_ := Aside0.mk (below_step (by repeat (first | (with_reducible first | exact HB.out | apply below_alloc | apply pw_below_drewN | apply below_drew1) | exact HB.out)) hb); clear HB; have HB := n0_; clear n0_; (try clear hb); (try clear hb2); (try clear hk); (try clear hi)) | ((with_reducible refine gate_callee (f := 12) rfl ?_); refine goesL_ (some 17) rfl rfl Tryd.func12 (by kernel_rfl) rfl #[.string a0] rfl (by (try simp only [List.map_toArray, List.map_cons, List.map_nil]); first | done | rfl | (simp only [List.length_drop, List.length_take]; rfl)) ?_; (with_reducible refine (script_Parse.calls a0 t412 t413 t414 _ A4.out).mono ?_); rintro e w14 ⟨v415, rfl, ho0, hb⟩; refine ⟨_, rfl, ?_⟩; have n0_ := Aside0.mk (Kd.S_lower ho0 (below_size (by repeat (first | (with_reducible first | exact HB.out | apply below_alloc | apply pw_below_drewN | apply below_drew1) | exact HB.out)))); have n1_ := Aside0.mk (below_step (by repeat (first | (with_reducible first | exact HB.out | apply below_alloc | apply pw_below_drewN | apply below_drew1) | exact HB.out)) hb); clear HB; have HO416 := n0_; have HB := n1_; clear n0_ n1_; (try clear hb); (try clear hb2); (try clear hk); (try clear hi); (try clear ho0); obtain ⟨Ao15, co15, eo15⟩ := Kd.S_slice HO416.out; subst eo15) | ((with_reducible refine gate_callee (f := 16) rfl ?_); refine goesL_ (some 40) rfl rfl Tryd.func16 (by kernel_rfl) rfl #[.slice Ao15 t412.length co15] rfl (by (try simp only [List.map_toArray, List.map_cons, List.map_nil]); first | done | rfl | (simp only [List.length_drop, List.length_take]; rfl)) ?_; (with_reducible refine (script_Print.calls k _ _ t412 t417 t418 _ ?side1 ?side2 ?sideT A6.out).mono ?_); (case sideT => exact Tabs.keep HT.out (by repeat (first | (with_reducible first | exact HB.out | apply below_alloc | apply pw_below_drewN | apply below_drew1) | exact HB.out))); (case side1 => repeat (first | exact (Kd.S_reads' HO416.out).2.2 | (with_reducible refine Kd.C_alloc ?_ _) | (with_reducible refine Kd.C_drewN ?_ _) | (with_reducible refine Kd.C_drew ?_))); (case side2 => exact (Kd.S_reads' HO416.out).2.1); rintro e w16 ⟨rfl, hb⟩; refine ⟨_, rfl, ?_⟩; have n0_ := Aside0.mk (Kd.S_below (by (with_reducible repeat (first | apply Kd.S_alloc | apply Kd.S_drewN | apply Kd.S_drew)); exact HO416.out) hb); have n1_ := Aside0.mk (below_step (by repeat (first | (with_reducible first | exact HB.out | apply below_alloc | apply pw_below_drewN | apply below_drew1) | exact HB.out)) hb); clear HO416; clear HB; have HO416 := n0_; have HB := n1_; clear n0_ n1_; (try clear hb); (try clear hb2); (try clear hk); (try clear hi)) | ((with_reducible refine gate_callee (f := 12) rfl ?_); refine goesL_ (some 57) rfl rfl Tryd.func12 (by kernel_rfl) rfl #[.string t417] rfl (by (try simp only [List.map_toArray, List.map_cons, List.map_nil]); first | done | rfl | (simp only [List.length_drop, List.length_take]; rfl)) ?_; (with_reducible refine (script_Parse.calls t417 t419 t420 t421 _ A8.out).mono ?_); rintro e w17 ⟨v422, rfl, ho0, hb⟩; refine ⟨_, rfl, ?_⟩; have n0_ := Aside0.mk (Kd.S_elder' (by (with_reducible repeat (first | apply Kd.S_alloc | apply Kd.S_drewN | apply Kd.S_drew)); exact HO416.out) (Kd.S_base ho0) hb); have n1_ := Aside0.mk (Kd.S_lower (Kd.S_new' ho0 (Kd.S_lt (by (with_reducible repeat (first | apply Kd.S_alloc | apply Kd.S_drewN | apply Kd.S_drew)); exact HO416.out))) (below_size (by repeat (first | (with_reducible first | exact HB.out | apply below_alloc | apply pw_below_drewN | apply below_drew1) | exact HB.out)))); have n2_ := Aside0.mk (below_step (by repeat (first | (with_reducible first | exact HB.out | apply below_alloc | apply pw_below_drewN | apply below_drew1) | exact HB.out)) hb); clear HO416; clear HB; have HO416 := n0_; have HO423 := n1_; have HB := n2_; clear n0_ n1_ n2_; (try clear hb); (try clear hb2); (try clear hk); (try clear hi); (try clear ho0); obtain ⟨Ao18, co18, eo18⟩ := Kd.S_slice HO423.out; subst eo18) | (go_at_call 14; (with_reducible refine (inclinelaw21_same.calls k _ _ t419 _ _ t412 true _ ?side1 ?side2 ?side3 ?side4 A10.out).mono ?_); (case side1 => repeat (first | exact (Kd.S_reads' HO423.out).2.2 | (with_reducible refine Kd.C_alloc ?_ _) | (with_reducible refine Kd.C_drewN ?_ _) | (with_reducible refine Kd.C_drew ?_))); (case side2 => exact (Kd.S_reads' HO423.out).2.1); (case side3 => repeat (first | exact (Kd.S_reads' HO416.out).2.2 | (with_reducible refine Kd.C_alloc ?_ _) | (with_reducible refine Kd.C_drewN ?_ _) | (with_reducible refine Kd.C_drew ?_))); (case side4 => exact (Kd.S_reads' HO416.out).2.1); rintro e w' ⟨rfl, ⟨nd, rfl⟩⟩))
              go_ret
              exact ⟨by first | rfl | (simp [errW_none, errW_some] <;> rfl) | (simp [*, errW_none, errW_some] <;> rfl), by repeat (first | (with_reducible first | exact HB.out | apply below_alloc | apply pw_below_drewN | apply below_drew1) | exact HB.out)⟩
            · rw [if_neg c12] at H
              exact absurd H (by simp)
          · replace c11 := Bool.eq_false_iff.mpr c11
            subst c11
            have H1 : (none) = some r := by rw [if_neg (show ¬ (false = true) by decide)] at H; exact H
            clear H
            have H := H1
            clear H1
            exact absurd H (by simp)
        · rw [if_neg c9] at H
          exact absurd H (by simp)
      · rw [if_neg c7] at H
        have c7b0 : (t418 == 0) = false := beq_eq_false_iff_ne.mpr c7
        have c7b1 : (t418 != 0) = true := bne_iff_ne.mpr c7
        by_cases c19 : t418 = 210
        · rw [if_pos c19] at H
          have c19b0 : (t418 == 210) = true := beq_iff_eq.mpr c19
          have c19b1 : (t418 != 210) = false := bne_eq_false_iff_eq.mpr c19
          clear c19
          obtain rfl := Option.some.inj H
          go_enter Tryd.func8, Tryd.ntmps8
          go_wp2_with (first | ((with_reducible refine gate_callee (f := 11) rfl ?_); refine goesL_ (some 12) rfl rfl Tryd.func11 (by kernel_rfl) rfl #[] rfl (by (try simp only [List.map_toArray, List.map_cons, List.map_nil]); first | done | rfl | (simp only [List.length_drop, List.length_take]; rfl)) ?_; (with_reducible refine (inclinelaw21_shown.calls k  true _ ?sideT A2.out).mono ?_); (case sideT => exact Tabs.keep HT.out (by repeat (first | (with_reducible first | exact HB.out | apply below_alloc | apply pw_below_drewN | apply below_drew1) | exact HB.out))); rintro e w20 ⟨rfl, hb⟩; refine ⟨_, rfl, ?_⟩; have n0_ := Aside0.mk (below_step (by repeat (first | (with_reducible first | exact HB.out | apply below_alloc | apply pw_below_drewN | apply below_drew1) | exact HB.out)) hb); clear HB; have HB := n0_; clear n0_; (try clear hb); (try clear hb2); (try clear hk); (try clear hi)) | ((with_reducible refine gate_callee (f := 12) rfl ?_); refine goesL_ (some 17) rfl rfl Tryd.func12 (by kernel_rfl) rfl #[.string a0] rfl (by (try simp only [List.map_toArray, List.map_cons, List.map_nil]); first | done | rfl | (simp only [List.length_drop, List.length_take]; rfl)) ?_; (with_reducible refine (script_Parse.calls a0 t412 t413 t414 _ A4.out).mono ?_); rintro e w21 ⟨v415, rfl, ho0, hb⟩; refine ⟨_, rfl, ?_⟩; have n0_ := Aside0.mk (Kd.S_lower ho0 (below_size (by repeat (first | (with_reducible first | exact HB.out | apply below_alloc | apply pw_below_drewN | apply below_drew1) | exact HB.out)))); have n1_ := Aside0.mk (below_step (by repeat (first | (with_reducible first | exact HB.out | apply below_alloc | apply pw_below_drewN | apply below_drew1) | exact HB.out)) hb); clear HB; have HO416 := n0_; have HB := n1_; clear n0_ n1_; (try clear hb); (try clear hb2); (try clear hk); (try clear hi); (try clear ho0); obtain ⟨Ao22, co22, eo22⟩ := Kd.S_slice HO416.out; subst eo22) | ((with_reducible refine gate_callee (f := 16) rfl ?_); refine goesL_ (some 40) rfl rfl Tryd.func16 (by kernel_rfl) rfl #[.slice Ao22 t412.length co22] rfl (by (try simp only [List.map_toArray, List.map_cons, List.map_nil]); first | done | rfl | (simp only [List.length_drop, List.length_take]; rfl)) ?_; (with_reducible refine (script_Print.calls k _ _ t412 t417 t418 _ ?side1 ?side2 ?sideT A6.out).mono ?_); (case sideT => exact Tabs.keep HT.out (by repeat (first | (with_reducible first | exact HB.out | apply below_alloc | apply pw_below_drewN | apply below_drew1) | exact HB.out))); (case side1 => repeat (first | exact (Kd.S_reads' HO416.out).2.2 | (with_reducible refine Kd.C_alloc ?_ _) | (with_reducible refine Kd.C_drewN ?_ _) | (with_reducible refine Kd.C_drew ?_))); (case side2 => exact (Kd.S_reads' HO416.out).2.1); rintro e w23 ⟨rfl, hb⟩; refine ⟨_, rfl, ?_⟩; have n0_ := Aside0.mk (Kd.S_below (by (with_reducible repeat (first | apply Kd.S_alloc | apply Kd.S_drewN | apply Kd.S_drew)); exact HO416.out) hb); have n1_ := Aside0.mk (below_step (by repeat (first | (with_reducible first | exact HB.out | apply below_alloc | apply pw_below_drewN | apply below_drew1) | exact HB.out)) hb); clear HO416; clear HB; have HO416 := n0_; have HB := n1_; clear n0_ n1_; (try clear hb); (try clear hb2); (try clear hk); (try clear hi)))
          go_ret
          exact ⟨by first | rfl | (simp [errW_none, errW_some] <;> rfl) | (simp [*, errW_none, errW_some] <;> rfl), by repeat (first | (with_reducible first | exact HB.out | apply below_alloc | apply pw_below_drewN | apply below_drew1) | exact HB.out)⟩
        · rw [if_neg c19] at H
          exact absurd H (by simp)
    · rw [if_neg c5] at H
      have c5b0 : (t414 == 0) = false := beq_eq_false_iff_ne.mpr c5
      have c5b1 : (t414 != 0) = true := bne_iff_ne.mpr c5
      by_cases c24 : (t412.length : Int) = 0
      · rw [if_pos c24] at H
        have c24b0 : ((t412.length : Int) == 0) = true := beq_iff_eq.mpr c24
        have c24b1 : ((t412.length : Int) != 0) = false := bne_eq_false_iff_eq.mpr c24
        clear c24
        by_cases c25 : t413 > 0
        · rw [if_pos c25] at H
          have c25b0 : decide (0 < t413) = true := decide_eq_true c25
          clear c25
          obtain rfl := Option.some.inj H
          go_enter Tryd.func8, Tryd.ntmps8
          go_wp2_with (first | ((with_reducible refine gate_callee (f := 11) rfl ?_); refine goesL_ (some 12) rfl rfl Tryd.func11 (by kernel_rfl) rfl #[] rfl (by (try simp only [List.map_toArray, List.map_cons, List.map_nil]); first | done | rfl | (simp only [List.length_drop, List.length_take]; rfl)) ?_; (with_reducible refine (inclinelaw21_shown.calls k  true _ ?sideT A2.out).mono ?_); (case sideT => exact Tabs.keep HT.out (by repeat (first | (with_reducible first | exact HB.out | apply below_alloc | apply pw_below_drewN | apply below_drew1) | exact HB.out))); rintro e w26 ⟨rfl, hb⟩; refine ⟨_, rfl, ?_⟩; have n0_ := Aside0.mk (below_step (by repeat (first | (with_reducible first | exact HB.out | apply below_alloc | apply pw_below_drewN | apply below_drew1) | exact HB.out)) hb); clear HB; have HB := n0_; clear n0_; (try clear hb); (try clear hb2); (try clear hk); (try clear hi)) | ((with_reducible refine gate_callee (f := 12) rfl ?_); refine goesL_ (some 17) rfl rfl Tryd.func12 (by kernel_rfl) rfl #[.string a0] rfl (by (try simp only [List.map_toArray, List.map_cons, List.map_nil]); first | done | rfl | (simp only [List.length_drop, List.length_take]; rfl)) ?_; (with_reducible refine (script_Parse.calls a0 t412 t413 t414 _ A4.out).mono ?_); rintro e w27 ⟨v415, rfl, ho0, hb⟩; refine ⟨_, rfl, ?_⟩; have n0_ := Aside0.mk (Kd.S_lower ho0 (below_size (by repeat (first | (with_reducible first | exact HB.out | apply below_alloc | apply pw_below_drewN | apply below_drew1) | exact HB.out)))); have n1_ := Aside0.mk (below_step (by repeat (first | (with_reducible first | exact HB.out | apply below_alloc | apply pw_below_drewN | apply below_drew1) | exact HB.out)) hb); clear HB; have HO416 := n0_; have HB := n1_; clear n0_ n1_; (try clear hb); (try clear hb2); (try clear hk); (try clear hi); (try clear ho0); obtain ⟨Ao28, co28, eo28⟩ := Kd.S_slice HO416.out; subst eo28))
          go_ret
          exact ⟨by first | rfl | (simp [errW_none, errW_some] <;> rfl) | (simp [*, errW_none, errW_some] <;> rfl), by repeat (first | (with_reducible first | exact HB.out | apply below_alloc | apply pw_below_drewN | apply below_drew1) | exact HB.out)⟩
        · rw [if_neg c25] at H
          have c25b0 : decide (0 < t413) = false := decide_eq_false c25
          clear c25
          obtain rfl := Option.some.inj H
          go_enter Tryd.func8, Tryd.ntmps8
          go_wp2_with (first | ((with_reducible refine gate_callee (f := 11) rfl ?_); refine goesL_ (some 12) rfl rfl Tryd.func11 (by kernel_rfl) rfl #[] rfl (by (try simp only [List.map_toArray, List.map_cons, List.map_nil]); first | done | rfl | (simp only [List.length_drop, List.length_take]; rfl)) ?_; (with_reducible refine (inclinelaw21_shown.calls k  true _ ?sideT A2.out).mono ?_); (case sideT => exact Tabs.keep HT.out (by repeat (first | (with_reducible first | exact HB.out | apply below_alloc | apply pw_below_drewN | apply below_drew1) | exact HB.out))); rintro e w29 ⟨rfl, hb⟩; refine ⟨_, rfl, ?_⟩; have n0_ := Aside0.mk (below_step (by repeat (first | (with_reducible first | exact HB.out | apply below_alloc | apply pw_below_drewN | apply below_drew1) | exact HB.out)) hb); clear HB; have HB := n0_; clear n0_; (try clear hb); (try clear hb2); (try clear hk); (try clear hi)) | ((with_reducible refine gate_callee (f := 12) rfl ?_); refine goesL_ (some 17) rfl rfl Tryd.func12 (by kernel_rfl) rfl #[.string a0] rfl (by (try simp only [List.map_toArray, List.map_cons, List.map_nil]); first | done | rfl | (simp only [List.length_drop, List.length_take]; rfl)) ?_; (with_reducible refine (script_Parse.calls a0 t412 t413 t414 _ A4.out).mono ?_); rintro e w30 ⟨v415, rfl, ho0, hb⟩; refine ⟨_, rfl, ?_⟩; have n0_ := Aside0.mk (Kd.S_lower ho0 (below_size (by repeat (first | (with_reducible first | exact HB.out | apply below_alloc | apply pw_below_drewN | apply below_drew1) | exact HB.out)))); have n1_ := Aside0.mk (below_step (by repeat (first | (with_reducible first | exact HB.out | apply below_alloc | apply pw_below_drewN | apply below_drew1) | exact HB.out)) hb); clear HB; have HO416 := n0_; have HB := n1_; clear n0_ n1_; (try clear hb); (try clear hb2); (try clear hk); (try clear hi); (try clear ho0); obtain ⟨Ao31, co31, eo31⟩ := Kd.S_slice HO416.out; subst eo31))
          go_ret
          exact ⟨by first | rfl | (simp [errW_none, errW_some] <;> rfl) | (simp [*, errW_none, errW_some] <;> rfl), by repeat (first | (with_reducible first | exact HB.out | apply below_alloc | apply pw_below_drewN | apply below_drew1) | exact HB.out)⟩
      · rw [if_neg c24] at H
        exact absurd H (by simp)
  · replace c3 := Bool.eq_false_iff.mpr c3
    subst c3
    have H1 : (none) = some r := by rw [if_neg (show ¬ (false = true) by decide)] at H; exact H
    clear H
    have H := H1
    clear H1
    exact absurd H (by simp)

/-- THE ONE PURE STATEMENT of inclinelaw21_ScriptAgain: yours. -/
def inclinelaw21_ScriptAgain.Pure : Prop := ∀ (a0 : ByteArray), a0.size ≤ 140737488351232 → ∃ k, inclinelaw21_ScriptAgain.f k a0 = some true
end Go.Proofs.YtlfoaaeelcmhiaaDoor.G
end

section
/- ScriptAgain: its plain law, its walk. -/
namespace Go.Proofs.YtlfoaaeelcmhiaaDoor
open Go.RowKit Go.Proofs.YtlfoaaeelcmhiaaDoor.Reading G
open Go.Proofs.YtlfoaaeelcmhiaaDoorW.PrintWords hiding nums
set_option linter.unusedVariables false
theorem Pure.ScriptAgain (a : ByteArray) (ha : a.size ≤ 140737488351232) : ∃ k, inclinelaw21_ScriptAgain.f k a = some true := by
  obtain ⟨K, hK⟩ := shown_is
  obtain ⟨sp1, sp2⟩ := parseT_spec (bl a)
  rw [bl_length] at sp1 sp2
  obtain ⟨⟨cs, at_, e⟩, hp⟩ : ∃ p, parseT (bl a) = p := ⟨_, rfl⟩
  rw [hp] at sp1 sp2
  simp only [] at sp1 sp2
  have hpi := parse_is a
  rw [hp] at hpi
  simp only [] at hpi
  by_cases he : e = 0
  · obtain ⟨s1, s2, s3, s4, s5⟩ := sp1 he
    subst s1 he
    have hw : ∀ c ∈ cs.map toS, ∀ n ∈ c.f1, u64ok n := fun c hc n hn => by
      obtain ⟨d, hd, rfl⟩ := List.mem_map.1 hc
      exact (s2 d hd).2.2 n hn
    obtain ⟨K2, hK2⟩ := same_cmds cs s2 s3
    refine ⟨K + 30000 + K2, ?_⟩
    unfold inclinelaw21_ScriptAgain.f
    rw [hK _ (by omega), Option.bind_some, if_pos rfl, hpi, Option.bind_some]
    simp only []
    rw [if_pos trivial, print_is (cs.map toS) hw _ (by omega), if_neg (by rw [List.length_map]; omega), Option.bind_some]
    have hno : ¬ ∃ c ∈ cs, takesL c.1 = -1 := fun ⟨c, hc, h⟩ => (s2 c hc).1 h
    rcases prGo_cases (cs.map toS) hw [] with ⟨x, hx, hpr⟩ | ⟨_, hpr⟩
    · exfalso
      have : ∀ (cs : List Cmd) (bs : Bytes), (∀ c ∈ cs, cmdOK c) → prGo (cs.map toS) bs = if 65536 < (bs ++ scriptText cs).length then (⟨#[]⟩, 210) else (mk (bs ++ scriptText cs), 0) := by
        intro cs
        induction cs with
        | nil => intro bs _; simp [prGo, scriptText]
        | cons c cs ih =>
          intro bs h
          have hc := h c List.mem_cons_self
          have e1 : bl (toS c).f0 = c.1 := by unfold toS; rw [bl_mk]
          rw [List.map_cons]
          unfold prGo
          rw [e1, if_neg hc.1, if_neg (fun h => h hc.2.1), ih _ (fun d hd => h d (List.mem_cons_of_mem _ hd))]
          have ee : bs ++ c.1 ++ numsText (toS c).f1 ++ [10] ++ scriptText cs = bs ++ scriptText (c :: cs) := by
            have e2 : scriptText (c :: cs) = (cmdText c ++ [10]) ++ scriptText cs := rfl
            rw [e2]
            simp [cmdText, toS]
          rw [ee]
      have h2 := this cs [] s2
      rw [hpr] at h2
      split at h2
      · have := congrArg Prod.snd h2; simp only [] at this; omega
      · have := congrArg Prod.snd h2; simp only [] at this; omega
    · rw [List.nil_append, map_ofS_toS] at hpr
      have hlen := scriptText_len cs
      by_cases hs : 65536 < (scriptText cs).length
      · rw [if_pos hs] at hpr
        rw [hpr]
        simp only []
        rw [if_neg (by omega), if_pos trivial]
        congr 1
        rw [beq_iff_eq]
        omega
      · rw [if_neg hs] at hpr
        rw [hpr]
        simp only []
        rw [if_pos trivial, parse_is, bl_mk, parse_text cs s2 s3 (by omega), Option.bind_some]
        simp only []
        rw [if_pos trivial, hK2 _ (by omega), Option.bind_some, if_pos rfl, if_pos trivial, ← bl_length, bl_mk, w64 (by omega) (by omega)]
        congr 1
        exact decide_eq_true (by omega)
  · obtain ⟨s1, s2, s3⟩ := sp2 he
    subst s1
    refine ⟨K, ?_⟩
    unfold inclinelaw21_ScriptAgain.f
    rw [hK _ (by omega), Option.bind_some, if_pos rfl, hpi, Option.bind_some]
    simp only []
    rw [if_neg he, if_pos (by rfl)]
    by_cases h : 0 < at_
    · rw [if_pos (by omega)]
    · rw [if_neg (by omega)]
      congr 1
      exact decide_eq_true (by omega)
theorem Walks.ScriptAgain {w : World} (hT : Tabs w) (a0 : ByteArray) (hs0 : a0.size ≤ reach) : Calls Tryd.prog 8 #[.string a0] w fun e w' => e = .returned (.bool true) ∧ Below w.heap.size w w' := by
  obtain ⟨k, hk⟩ := Pure.ScriptAgain a0 hs0
  exact inclinelaw21_ScriptAgain.calls k a0 true w hT hk
end Go.Proofs.YtlfoaaeelcmhiaaDoor
end

section
/- The row of ScriptAgain: for every input the law answers true, and each argument reads as it did. Out of its walk (Walks.ScriptAgain). -/
namespace Go.Proofs.YtlfoaaeelcmhiaaDoor.rowScriptAgain
open Go.ChangeShapes Go.WideShapes Go.ChangeAt Go.RowKit Go.Proofs.YtlfoaaeelcmhiaaDoor.Reading
open Go.ChangeMaps (open_string shut_string)
set_option linter.unusedVariables false
theorem own : ownKnob Tryd.prog.godebug = none := by kernel_rfl
theorem laidOut : laidOutB Tryd.prog = true := by kernel_rfl
set_option maxRecDepth 100000 in
theorem contract (H : Type) (enc : TypeId × Value → H) (W : World) (base : Nat) (args : Array Value) (ds gs : List (DataW H)) (before : List MemPlace)
    (hval0 : ∀ (j : Nat) t v, Tryd.f8.params[j]? = some t → args[j]? = some v → Value.okWide Tryd.prog W .any base t v)
    (hW : DataW.Whole enc Tryd.prog Tryd.f8.params.toList Rows.scriptAgainSpec.vars false W args.toList ds gs before) (hL : laidMetH Tryd.prog Rows.scriptAgainRow.laid W)
    (hsz0 : (DataW.weightsEach Tryd.prog (Tryd.f8.params.toList ++ Rows.scriptAgainSpec.plain.varTypes Tryd.prog) (ds ++ gs)).all (· ≤ reachBytes) = true) :
    Calls Tryd.prog 8 args W fun e W' => ∃ v, e = .returned v ∧ Rows.scriptAgainSpec.post enc Tryd.prog Tryd.f8 false true false false W args v W' := by
  have hval := hval0
  have hsz := hsz0
  have hW' := hW
  obtain ⟨p, q, hA0, hV, rfl, hfz, hnd⟩ := hW
  have hA : DataW.TrodAll enc Tryd.prog W 0 (fun _ => true) true Tryd.f8.params.toList args.toList ds p := hA0
  rw [Tryd.params8] at hA hval hsz
  obtain ⟨v0, vs0, d0, ds0, p0, q0, hargs, rfl, rfl, h0, r0⟩ := trodAll_cons hA
  obtain ⟨rfl, rfl, rfl⟩ := trodAll_nil r0
  obtain rfl : args = #[v0] := by cases args; simp_all
  obtain ⟨rfl, rfl⟩ := trodVars_none hV
  have hwt := weights_at hsz
  have k0 := h0
  have lt0 : ∀ x ∈ p0, x.block < W.heap.size := by obtain ⟨m, hm⟩ := k0; exact DataW.trod_lt m _ _ _ hm
  have wt0 : ∀ n ∈ DataW.weights Tryd.prog 9 d0, n ≤ reach := fun n hn => hwt n (by simp only [List.cons_append, List.nil_append, List.append_nil, DataW.weightsEach, List.mem_append]; first | exact hn | exact (.inl hn) | exact hn)
  obtain ⟨a0, rfl, rfl, rfl, w0⟩ := open_string Tryd.underlying9 (hval 0 9 v0 rfl rfl) h0
  have hs0 : a0.size ≤ reach := by have := wt0 a0.data.toList.length (by simp [DataW.weights]); have e : a0.data.toList.length = a0.size := by (rw [Array.length_toList]; rfl)
                                   omega
  clear hA0 hval0 hsz0 hsz
  refine (Walks.ScriptAgain (tabs_of hL) a0 hs0).mono fun e W' ⟨he, bel⟩ => ?_
  subst he
  exact ⟨_, rfl, _, _, _, [], _, [], hW', trodAll_mk1 (shut_bool Tryd.underlying4 _), (trodAll_cons_mk (Below.trod laidOut (by kernel_rfl) (of_decide_eq_true (by kernel_rfl)) k0 bel lt0) trodAll_mk0), rfl, bel.frame _, fun h => by cases h⟩
set_option maxRecDepth 100000 in
theorem lifted (os : Os) (started : os.Started) (H : Type) (enc : TypeId × Value → H) (F : Stop.Interp) :
    ReturnsInHanded {} Tryd.checked os 8 .any ((OpenSpec.ofChange Rows.scriptAgainSpec).preRow enc Tryd.prog Tryd.f8 Rows.scriptAgainRow.domain false Rows.scriptAgainRow.laid) (((OpenSpec.ofChange Rows.scriptAgainSpec).at F).post enc Tryd.prog Tryd.f8 false true false false) := by
  obtain ⟨places, hx⟩ : ∃ places, DataW.whole enc Tryd.prog ((laidWorld os).forCall (fun _ _ => 0) ⟨#[], #[.string ByteArray.empty], []⟩).memory Tryd.f8.params.toList Rows.scriptAgainSpec.vars false (#[.string ByteArray.empty] : Array Value).toList 8 = some ([.lit (.string [])], [], places) := ⟨[], by kernel_rfl⟩
  refine returnsInHanded_of_row (C := Tryd.checked) (s := (OpenSpec.ofChange Rows.scriptAgainSpec)) own started (by kernel_rfl) Tryd.func8
    (witness_row_at (enc := enc) (C := Tryd.checked) false (laidWorld os) #[.string ByteArray.empty] rfl (by kernel_rfl) (by kernel_rfl) (by kernel_rfl)
      (OpenSpec.preRow_of_cond 8 hx (by kernel_rfl) (fun k hk => by cases hk) (by kernel_rfl) (laid_met os _))) ?_
  intro W base args ds gs before hval hW _ hcond hsz hL _ _
  exact contract H enc W base args ds gs before hval hW hL hsz
theorem over : Rows.scriptAgainRow.holds Tryd.pinned (OpenSpec.ofChange Rows.scriptAgainSpec) :=
  OpenClaim.holds_of_cond 8 Tryd.f8 rfl rfl rfl rfl rfl rfl rfl ⟨rfl, rfl, rfl, rfl, rfl⟩ rfl rfl rfl rfl rfl (by kernel_rfl) Tryd.func8 (by kernel_rfl)
    (of_decide_eq_true (by kernel_rfl)) (by unfold Func.isWrapper; first | (rw [if_pos (by decide +kernel)]; kernel_rfl) | (rw [if_neg (by decide +kernel)]; exact ⟨rfl, rfl⟩))
    (fun os started H enc _ F => by rw [OpenClaim.pre_eq_preRow]; exact lifted os started H enc F)
theorem plain (f : FuncId) (fn : Func) (hf : Tryd.pinned.checked.prog.funcNamed "incline/inclinelaw21.ScriptAgain" = some f) (hfn : Tryd.pinned.checked.prog.funcs[f]? = some fn) :
    false = Tryd.pinned.checked.prog.looks [] ∧ ∀ (j : Nat) t, fn.params[j]? = some t → Tryd.pinned.checked.prog.wantsStandIn t = false := by
  obtain rfl : f = 8 := Option.some.inj ((show Tryd.prog.funcNamed "incline/inclinelaw21.ScriptAgain" = some 8 by kernel_rfl).symm.trans hf) |>.symm
  obtain rfl : fn = Tryd.f8 := (Option.some.inj (Tryd.func8.symm.trans hfn)).symm
  refine ⟨by kernel_rfl, fun j t ht => ?_⟩
  rw [Tryd.params8] at ht
  have hm : t ∈ [9] := by simpa using Array.mem_of_getElem? ht
  have hall : ([9].all fun u => !Tryd.prog.wantsStandIn u) = true := by kernel_rfl
  exact (show Tryd.prog.wantsStandIn t = false by simpa using List.all_eq_true.1 hall t hm)
end Go.Proofs.YtlfoaaeelcmhiaaDoor.rowScriptAgain
namespace Go.Proofs.YtlfoaaeelcmhiaaDoor
/-- The card. -/
theorem scriptAgain_holds : Rows.ScriptAgainCardSaid :=
  Claim7.holds_tied_plain_at .later [] _ _ _ _ rowScriptAgain.over (fun _ h => by cases h) (by kernel_rfl) (fun _ h => by cases h) scriptAgain_row_tie rfl ⟨rfl, rfl⟩ (by kernel_rfl) rfl rowScriptAgain.plain (by kernel_rfl)
#print axioms scriptAgain_holds
end Go.Proofs.YtlfoaaeelcmhiaaDoor
end
