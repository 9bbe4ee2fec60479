/- The last of the claim's own texts, in one file: Gx30, WalkTells, Laid, RowScriptTells. Conditions: each theorem's own. -/
import Derived.Test.YtlfoaaeelcmhiaaDoorZTells1
import Derived.Test.YtlfoaaeelcmhiaaDoorZTells2
import Derived.Test.YtlfoaaeelcmhiaaDoorZTells3
import Derived.Test.YtlfoaaeelcmhiaaDoorCards
import Derived.Test.YtlfoaaeelcmhiaaDoorTie
import Derived.Deep.DeepHandedRow
import Derived.Lib.LaidTab
import Derived.LaidSub
import Derived.Test.YtlfoaaeelcmhiaaDoorRows
import Derived.WalkKit
import Derived.ProofKit
import Derived.OpenShut
import Derived.ShutString
import Derived.ChangeOld
import Derived.Below
import Derived.SizedLaws
import Derived.JoinedCond
import Derived.Deep.CondSized
section
-- Written by a program of this session (wip/gprint.py: the kit's print, with contracts proved by hand)
namespace Go.Proofs.YtlfoaaeelcmhiaaDoor.G
open Go.RowKit Go.Proofs.YtlfoaaeelcmhiaaDoorW.PrintWords Go.Proofs.YtlfoaaeelcmhiaaDoorW.PrintLast Go.Proofs.YtlfoaaeelcmhiaaDoorW.PrintMore
attribute [local go_sem] max2_int min2_int max_two min_two max_three min_three max_four min_four   -- for this text's walks alone
set_option linter.unusedVariables false
set_option linter.unusedSimpArgs false

/-! ### inclinelaw21_ScriptTells: function 6 -/
def inclinelaw21_ScriptTells.f (k : Nat) (a0_0 : Int) (a0_1 : Int) (a0_2 : Int) (a1_0 : Int) (a1_1 : Bool) (a1_2 : Int) (a1_3 : Int) (a1_4 : Int) (l1_5 : List (S50)) : Option (Bool) := (inclinelaw21_shown.f k).bind fun t399 => (if t399 = true then ((script_Tell.f k a0_0 a0_1 a0_2 a1_0 a1_1 a1_2 a1_3 a1_4 l1_5).bind fun t400 => ((inclineref21_Tell.f k a0_0 a0_1 a0_2 a1_0 a1_1 a1_2 a1_3 a1_4 l1_5).bind fun t401 => (some (t400.toList == t401.toList)))) else (none))
theorem inclinelaw21_ScriptTells.mono : ∀ a0 a1 a2 a3 a4 a5 a6 a7 a8 k, LeO (inclinelaw21_ScriptTells.f k a0 a1 a2 a3 a4 a5 a6 a7 a8) (inclinelaw21_ScriptTells.f (k + 1) a0 a1 a2 a3 a4 a5 a6 a7 a8) := by
  intro a0 a1 a2 a3 a4 a5 a6 a7 a8 k
  unfold inclinelaw21_ScriptTells.f
  repeat' first
      | (with_reducible exact inclinelaw21_shown.mono _)
      | (with_reducible exact inclineref21_Tell.mono _ _ _ _ _ _ _ _ _ _)
      | (with_reducible exact script_Tell.mono _ _ _ _ _ _ _ _ _ _)
      | (with_reducible exact LeO.refl _)
      | (with_reducible exact LeO.none _)
      | (with_reducible refine LeO.ite ?_ ?_)
      | (with_reducible refine LeO.bind ?_ (fun _ => ?_))
      | exact inclinelaw21_shown.mono _
      | exact inclineref21_Tell.mono _ _ _ _ _ _ _ _ _ _
      | exact script_Tell.mono _ _ _ _ _ _ _ _ _ _
      | exact LeO.none _
      | refine LeO.ite ?_ ?_
      | refine LeO.bind ?_ (fun _ => ?_)
def inclinelaw21_ScriptTells.T4 : Bool × List (List Nat × List Nat) := (true, [([], []), ([], []), ([0, 1], [0, 1]), ([], []), ([], []), ([3, 4, 2], [3, 4]), ([2, 5], [2, 5]), ([6, 5, 0, 1, 2, 3, 4, 5, 6], [6])])
def inclinelaw21_ScriptTells.B4 : List Nat := [0, 0, 3, 0, 0, 31, 63, 127]
theorem inclinelaw21_ScriptTells.tab4 : rtab .any (opsOf Tryd.f6 4) = inclinelaw21_ScriptTells.T4 := by kernel_rfl
theorem inclinelaw21_ScriptTells.bits4 : waitsOk inclinelaw21_ScriptTells.T4.2 inclinelaw21_ScriptTells.B4 = true := by kernel_rfl
set_option maxHeartbeats 8000000 in
set_option maxRecDepth 100000 in
theorem inclinelaw21_ScriptTells.calls (k : Nat) (a0_0 : Int) (a0_1 : Int) (a0_2 : Int) (a1_0 : Int) (a1_1 : Bool) (a1_2 : Int) (a1_3 : Int) (a1_4 : Int) (A1_5 : Option Addr) (c1_5 : Nat) (l1_5 : List (S50)) (r : Bool) (w : World) (hr1_5 : Kd.C k50 w A1_5 l1_5.length l1_5) (hc1_5 : l1_5.length ≤ c1_5) (hT : Tabs w) (h : inclinelaw21_ScriptTells.f k a0_0 a0_1 a0_2 a1_0 a1_1 a1_2 a1_3 a1_4 l1_5 = some r) :
    Calls Tryd.prog 6 #[.agg #[.int .i64 a0_0, .int .u64 a0_1, .int .u64 a0_2], .agg #[.int .i64 a1_0, .bool a1_1, .int .u64 a1_2, .int .u64 a1_3, .int .i64 a1_4, .slice A1_5 l1_5.length c1_5]] w fun e w' => e = .returned (.bool r) ∧ Below w.heap.size w w' := by
  have HT := Aside0.mk hT
  clear hT
  have hu38 := Tryd.underlying38
  have hu44 := Tryd.underlying44
  have HR1_5 := Aside0.mk hr1_5
  have HC1_5 := Aside0.mk hc1_5
  clear hr1_5 hc1_5
  have HB := Aside0.mk (Below.refl w.heap.size w)
  have H : ((inclinelaw21_shown.f k).bind fun t399 => (if t399 = true then ((script_Tell.f k a0_0 a0_1 a0_2 a1_0 a1_1 a1_2 a1_3 a1_4 l1_5).bind fun t400 => ((inclineref21_Tell.f k a0_0 a0_1 a0_2 a1_0 a1_1 a1_2 a1_3 a1_4 l1_5).bind fun t401 => (some (t400.toList == t401.toList)))) else (none))) = some r := h
  clear h
  replace H := Option.bind_eq_some_iff.mp H
  obtain ⟨t399, A30, H⟩ := H
  replace H : (if t399 = true then ((script_Tell.f k a0_0 a0_1 a0_2 a1_0 a1_1 a1_2 a1_3 a1_4 l1_5).bind fun t400 => ((inclineref21_Tell.f k a0_0 a0_1 a0_2 a1_0 a1_1 a1_2 a1_3 a1_4 l1_5).bind fun t401 => (some (t400.toList == t401.toList)))) else (none)) = some r := H
  have A3 := Aside0.mk A30
  clear A30
  by_cases c4 : t399 = true
  · subst c4
    have H1 : ((script_Tell.f k a0_0 a0_1 a0_2 a1_0 a1_1 a1_2 a1_3 a1_4 l1_5).bind fun t400 => ((inclineref21_Tell.f k a0_0 a0_1 a0_2 a1_0 a1_1 a1_2 a1_3 a1_4 l1_5).bind fun t401 => (some (t400.toList == t401.toList)))) = some r := by rw [if_pos rfl] at H; exact H
    clear H
    have H := H1
    clear H1
    replace H := Option.bind_eq_some_iff.mp H
    obtain ⟨t400, A50, H⟩ := H
    replace H : ((inclineref21_Tell.f k a0_0 a0_1 a0_2 a1_0 a1_1 a1_2 a1_3 a1_4 l1_5).bind fun t401 => (some (t400.toList == t401.toList))) = some r := H
    have A5 := Aside0.mk A50
    clear A50
    replace H := Option.bind_eq_some_iff.mp H
    obtain ⟨t401, A60, H⟩ := H
    replace H : (some (t400.toList == t401.toList)) = some r := H
    have A6 := Aside0.mk A60
    clear A60
    obtain rfl := Option.some.inj H
    go_enter Tryd.func6, Tryd.ntmps6
    try go_wp2_with (first | ((with_reducible refine gate_dst (N := 2) rfl ?_); refine box_event ?hg (N := 2) ?hd (cs := #[.int .i64 a0_0, .int .u64 a0_1, .int .u64 a0_2]) (t := 38) ?hr ?_; (case hd => rfl); (case hg => rfl); (case hr => first | (go_simp; done) | (go_simp; rfl)); intro gb397 hg w7 hbox hb; have n0_ := Aside0.mk (below_step (by repeat (first | (with_reducible first | exact HB.out | apply below_alloc | apply pw_below_drewN | apply below_drew1) | exact HB.out)) hb); have n1_ := Aside0.mk (hbox); have n2_ := Aside0.mk ((by rw [hg]; exact (below_size (by repeat (first | (with_reducible first | exact HB.out | apply below_alloc | apply pw_below_drewN | apply below_drew1) | exact HB.out))) : w.heap.size ≤ gb397)); have n3_ := Aside0.mk ((by rw [hg]; exact (below_size (by repeat (first | (with_reducible first | exact HB.out | apply below_alloc | apply pw_below_drewN | apply below_drew1) | exact HB.out))) : w.heap.size ≤ gb397)); clear HB; have HB := n0_; have BK397 := n1_; have GW397 := n2_; have GE397 := n3_; clear n0_ n1_ n2_ n3_; clear hb hbox hg) | ((with_reducible refine gate_dst (N := 3) rfl ?_); refine box_event ?hg (N := 3) ?hd (cs := #[.int .i64 a1_0, .bool a1_1, .int .u64 a1_2, .int .u64 a1_3, .int .i64 a1_4, .slice A1_5 l1_5.length c1_5]) (t := 44) ?hr ?_; (case hd => rfl); (case hg => rfl); (case hr => first | (go_simp; done) | (go_simp; rfl)); intro gb398 hg w8 hbox hb; have n0_ := Aside0.mk (blk_below (g := gb397) (o := .cells #[.int .i64 a0_0, .int .u64 a0_1, .int .u64 a0_2] 38 (0, 0)) (by (with_reducible repeat (first | refine blk_drewN ?_ _ | refine blk_drew ?_ | refine blk_alloc ?_ _)); exact BK397.out) hb); have n1_ := Aside0.mk (below_step (by repeat (first | (with_reducible first | exact HB.out | apply below_alloc | apply pw_below_drewN | apply below_drew1 | refine below_set ?_ GE397.out) | exact HB.out)) hb); have n2_ := Aside0.mk (hbox); have n3_ := Aside0.mk ((by rw [hg]; exact (below_size (by repeat (first | (with_reducible first | exact HB.out | apply below_alloc | apply pw_below_drewN | apply below_drew1 | refine below_set ?_ GE397.out) | exact HB.out))) : w.heap.size ≤ gb398)); have n4_ := Aside0.mk ((by rw [hg]; exact (below_size (by repeat (first | (with_reducible first | exact HB.out | apply below_alloc | apply pw_below_drewN | apply below_drew1 | refine below_set ?_ GE397.out) | exact HB.out))) : w.heap.size ≤ gb398)); have n5_ := Aside0.mk ((by rw [hg]; exact Nat.ne_of_lt (blk_lt (g := gb397) (o := .cells #[.int .i64 a0_0, .int .u64 a0_1, .int .u64 a0_2] 38 (0, 0)) (by (with_reducible repeat (first | refine blk_drewN ?_ _ | refine blk_drew ?_ | refine blk_alloc ?_ _)); exact BK397.out)) : gb397 ≠ gb398)); have n6_ := Aside0.mk ((by rw [hg]; exact Nat.ne_of_gt (blk_lt (g := gb397) (o := .cells #[.int .i64 a0_0, .int .u64 a0_1, .int .u64 a0_2] 38 (0, 0)) (by (with_reducible repeat (first | refine blk_drewN ?_ _ | refine blk_drew ?_ | refine blk_alloc ?_ _)); exact BK397.out)) : gb398 ≠ gb397)); clear BK397; clear HB; have BK397 := n0_; have HB := n1_; have BK398 := n2_; have GW398 := n3_; have GE398 := n4_; have NB397_398 := n5_; have NB398_397 := n6_; clear n0_ n1_ n2_ n3_ n4_ n5_ n6_; clear hb hbox hg) | ((with_reducible refine gate_callee (f := 11) rfl ?_); refine goesL_ (some 6) rfl rfl Tryd.func11 (by kernel_rfl) rfl #[] rfl (by (try simp only [List.map_toArray, List.map_cons, List.map_nil]); first | done | rfl | (simp only [List.length_drop, List.length_take]; rfl)) ?_; (with_reducible refine (inclinelaw21_shown.calls k  true _ ?sideT A3.out).mono ?_); (case sideT => exact Tabs.keep HT.out (by repeat (first | (with_reducible first | exact HB.out | apply below_alloc | apply pw_below_drewN | apply below_drew1) | exact HB.out))); rintro e w9 ⟨rfl, hb⟩; refine ⟨_, rfl, ?_⟩; have n0_ := Aside0.mk (blk_below (g := gb397) (o := .cells #[.int .i64 a0_0, .int .u64 a0_1, .int .u64 a0_2] 38 (0, 0)) (by (with_reducible repeat (first | refine blk_drewN ?_ _ | refine blk_drew ?_ | refine blk_alloc ?_ _)); exact BK397.out) hb); have n1_ := Aside0.mk (blk_below (g := gb398) (o := .cells #[.int .i64 a1_0, .bool a1_1, .int .u64 a1_2, .int .u64 a1_3, .int .i64 a1_4, .slice A1_5 l1_5.length c1_5] 44 (0, 0)) (by (with_reducible repeat (first | refine blk_drewN ?_ _ | refine blk_drew ?_ | refine blk_alloc ?_ _)); exact BK398.out) hb); have n2_ := Aside0.mk (below_step (by repeat (first | (with_reducible first | exact HB.out | apply below_alloc | apply pw_below_drewN | apply below_drew1 | refine below_set ?_ GE397.out | refine below_set ?_ GE398.out) | exact HB.out)) hb); clear BK397; clear BK398; clear HB; have BK397 := n0_; have BK398 := n1_; have HB := n2_; clear n0_ n1_ n2_; (try clear hb); (try clear hb2); (try clear hk); (try clear hi)))
    have n0_ := Aside0.mk (blk_drew BK397.out)
    have n1_ := Aside0.mk (blk_drew BK398.out)
    have n2_ := Aside0.mk (below_drew1 HB.out)
    clear BK397
    clear BK398
    clear HB
    have BK397 := n0_
    have BK398 := n1_
    have HB := n2_
    clear n0_ n1_ n2_
    refine start_ (n := 8) (S := fun w' => w'.cell? ⟨gb397, 0, none⟩ = some (.int .i64 a0_0) ∧ w'.cell? ⟨gb397, 1, none⟩ = some (.int .u64 a0_1) ∧ w'.cell? ⟨gb397, 2, none⟩ = some (.int .u64 a0_2) ∧ w'.cell? ⟨gb398, 0, none⟩ = some (.int .i64 a1_0) ∧ w'.cell? ⟨gb398, 1, none⟩ = some (.bool a1_1) ∧ w'.cell? ⟨gb398, 2, none⟩ = some (.int .u64 a1_2) ∧ w'.cell? ⟨gb398, 3, none⟩ = some (.int .u64 a1_3) ∧ w'.cell? ⟨gb398, 4, none⟩ = some (.int .i64 a1_4) ∧ w'.cell? ⟨gb398, 5, none⟩ = some (.slice A1_5 l1_5.length c1_5)) (ds := []) #[false, false, false, false, false, false, false, false] (by kernel_rfl) rfl rfl ⟨(blk_cell BK397.out 0).trans rfl, (blk_cell BK397.out 1).trans rfl, (blk_cell BK397.out 2).trans rfl, (blk_cell BK398.out 0).trans rfl, (blk_cell BK398.out 1).trans rfl, (blk_cell BK398.out 2).trans rfl, (blk_cell BK398.out 3).trans rfl, (blk_cell BK398.out 4).trans rfl, (blk_cell BK398.out 5).trans rfl⟩ (fun hHeld => ?_); refine with_tabW inclinelaw21_ScriptTells.tab4 inclinelaw21_ScriptTells.bits4 (fun HT_ HW_ => ?_)
    generalize w9.drew = w10 at BK397 BK398 HB hHeld ⊢
    refine take_ (i := 0) (N := some 9) (v := ?_) (a' := ?_) #[true, false, false, false, false, false, false, false] rfl rfl (take_ofW HT_.out HW_.out (by kernel_rfl)) (fun _ _ _ h => h) (Or.inl ⟨by rfl, ?_⟩) hHeld ?_ ?_
    rotate_left
    · rintro w' ⟨s0, s1, s2, s3, s4, s5, s6, s7, s8⟩
      go_simp
      with_reducible rfl
    rotate_left
    · simp only [Act.put, List.setIfInBounds_toArray, List.set_cons_zero, List.set_cons_succ, i64_w, i32_w]
      rfl
    refine take_ (i := 1) (N := some 10) (v := ?_) (a' := ?_) #[true, true, false, false, false, false, false, false] rfl rfl (take_ofW HT_.out HW_.out (by kernel_rfl)) (fun _ _ _ h => h) (Or.inl ⟨by rfl, ?_⟩) hHeld ?_ ?_
    rotate_left
    · rintro w' ⟨s0, s1, s2, s3, s4, s5, s6, s7, s8⟩
      go_simp
      with_reducible rfl
    rotate_left
    · simp only [Act.put, List.setIfInBounds_toArray, List.set_cons_zero, List.set_cons_succ, i64_w, i32_w]
      rfl
    refine take_ (i := 3) (N := some 12) (v := ?_) (a' := ?_) #[true, true, false, true, false, false, false, false] rfl rfl (take_ofW HT_.out HW_.out (by kernel_rfl)) (fun _ _ _ h => h) (Or.inl ⟨by rfl, ?_⟩) hHeld ?_ ?_
    rotate_left
    · rintro w' ⟨s0, s1, s2, s3, s4, s5, s6, s7, s8⟩
      go_simp
      with_reducible rfl
    rotate_left
    · simp only [Act.put, List.setIfInBounds_toArray, List.set_cons_zero, List.set_cons_succ, i64_w, i32_w]
      rfl
    refine take_ (i := 4) (N := some 13) (v := ?_) (a' := ?_) #[true, true, false, true, true, false, false, false] rfl rfl (take_ofW HT_.out HW_.out (by kernel_rfl)) (fun _ _ _ h => h) (Or.inl ⟨by rfl, ?_⟩) hHeld ?_ ?_
    rotate_left
    · rintro w' ⟨s0, s1, s2, s3, s4, s5, s6, s7, s8⟩
      go_simp
      with_reducible rfl
    rotate_left
    · simp only [Act.put, List.setIfInBounds_toArray, List.set_cons_zero, List.set_cons_succ, i64_w, i32_w]
      rfl
    refine one_ (i := 2) (N := some 11) #[true, true, true, true, true, false, false, false] rfl rfl (one_of HT_.out (by kernel_rfl)) (by decide) (fun K hK => ?_)
    refine goes_ Tryd.func20 (by kernel_rfl) rfl #[.agg #[.int .i64 a0_0, .int .u64 a0_1, .int .u64 a0_2], .agg #[.int .i64 a1_0, .bool a1_1, .int .u64 a1_2, .int .u64 a1_3, .int .i64 a1_4, .slice A1_5 l1_5.length c1_5]] (by rfl) rfl rfl (by (try simp only [List.map_toArray, List.map_cons, List.map_nil]); first | done | rfl | (simp only [List.length_drop, List.length_take]; rfl)) ?_
    with_reducible refine (script_Tell.calls k a0_0 a0_1 a0_2 a1_0 a1_1 a1_2 a1_3 a1_4 _ _ l1_5 t400 _ ?side1 ?side2 ?sideT A5.out).mono ?_
    (case sideT => exact Tabs.keep HT.out (by repeat (first | (with_reducible first | exact HB.out | apply below_alloc | apply pw_below_drewN | apply below_drew1 | refine below_set ?_ GE397.out | refine below_set ?_ GE398.out) | exact HB.out)))
    (case side1 => repeat (first | exact (Kd.C_below HR1_5.out HB.out) | (with_reducible refine Kd.C_alloc ?_ _) | (with_reducible refine Kd.C_drewN ?_ _) | (with_reducible refine Kd.C_drew ?_)))
    (case side2 => exact HC1_5.out)
    rintro e w11 ⟨rfl, hb⟩
    refine ⟨_, rfl, ?_⟩
    have n0_ := Aside0.mk (blk_below (g := gb397) (o := .cells #[.int .i64 a0_0, .int .u64 a0_1, .int .u64 a0_2] 38 (0, 0)) (by (with_reducible repeat (first | refine blk_drewN ?_ _ | refine blk_drew ?_ | refine blk_alloc ?_ _)); exact BK397.out) hb)
    have n1_ := Aside0.mk (blk_below (g := gb398) (o := .cells #[.int .i64 a1_0, .bool a1_1, .int .u64 a1_2, .int .u64 a1_3, .int .i64 a1_4, .slice A1_5 l1_5.length c1_5] 44 (0, 0)) (by (with_reducible repeat (first | refine blk_drewN ?_ _ | refine blk_drew ?_ | refine blk_alloc ?_ _)); exact BK398.out) hb)
    have n2_ := Aside0.mk (below_step (by repeat (first | (with_reducible first | exact HB.out | apply below_alloc | apply pw_below_drewN | apply below_drew1 | refine below_set ?_ GE397.out | refine below_set ?_ GE398.out) | exact HB.out)) hb)
    clear BK397
    clear BK398
    clear HB
    have BK397 := n0_
    have BK398 := n1_
    have HB := n2_
    clear n0_ n1_ n2_
    (try clear hb)
    (try clear hb2)
    (try clear hk)
    (try clear hi)
    refine hK.out _ _ ⟨(blk_cell BK397.out 0).trans rfl, (blk_cell BK397.out 1).trans rfl, (blk_cell BK397.out 2).trans rfl, (blk_cell BK398.out 0).trans rfl, (blk_cell BK398.out 1).trans rfl, (blk_cell BK398.out 2).trans rfl, (blk_cell BK398.out 3).trans rfl, (blk_cell BK398.out 4).trans rfl, (blk_cell BK398.out 5).trans rfl⟩ (fun hHeld => ?_)
    clear hK K
    refine norm_ (a' := ?_) ?_ ?_
    rotate_left
    · show Act.put _ (some 11) _ = _
      simp only [Act.put, List.setIfInBounds_toArray, List.set_cons_zero, List.set_cons_succ, i64_w, i32_w]
      rfl
    refine one_ (i := 5) (N := some 14) #[true, true, true, true, true, true, false, false] rfl rfl (one_of HT_.out (by kernel_rfl)) (by decide) (fun K hK => ?_)
    refine goes_ Tryd.func21 (by kernel_rfl) rfl #[.agg #[.int .i64 a0_0, .int .u64 a0_1, .int .u64 a0_2], .agg #[.int .i64 a1_0, .bool a1_1, .int .u64 a1_2, .int .u64 a1_3, .int .i64 a1_4, .slice A1_5 l1_5.length c1_5]] (by rfl) rfl rfl (by (try simp only [List.map_toArray, List.map_cons, List.map_nil]); first | done | rfl | (simp only [List.length_drop, List.length_take]; rfl)) ?_
    with_reducible refine (inclineref21_Tell.calls k a0_0 a0_1 a0_2 a1_0 a1_1 a1_2 a1_3 a1_4 _ _ l1_5 t401 _ ?side1 ?side2 A6.out).mono ?_
    (case side1 => repeat (first | exact (Kd.C_below HR1_5.out HB.out) | (with_reducible refine Kd.C_alloc ?_ _) | (with_reducible refine Kd.C_drewN ?_ _) | (with_reducible refine Kd.C_drew ?_)))
    (case side2 => exact HC1_5.out)
    rintro e w12 ⟨rfl, hb⟩
    refine ⟨_, rfl, ?_⟩
    have n0_ := Aside0.mk (blk_below (g := gb397) (o := .cells #[.int .i64 a0_0, .int .u64 a0_1, .int .u64 a0_2] 38 (0, 0)) (by (with_reducible repeat (first | refine blk_drewN ?_ _ | refine blk_drew ?_ | refine blk_alloc ?_ _)); exact BK397.out) hb)
    have n1_ := Aside0.mk (blk_below (g := gb398) (o := .cells #[.int .i64 a1_0, .bool a1_1, .int .u64 a1_2, .int .u64 a1_3, .int .i64 a1_4, .slice A1_5 l1_5.length c1_5] 44 (0, 0)) (by (with_reducible repeat (first | refine blk_drewN ?_ _ | refine blk_drew ?_ | refine blk_alloc ?_ _)); exact BK398.out) hb)
    have n2_ := Aside0.mk (below_step (by repeat (first | (with_reducible first | exact HB.out | apply below_alloc | apply pw_below_drewN | apply below_drew1 | refine below_set ?_ GE397.out | refine below_set ?_ GE398.out) | exact HB.out)) hb)
    clear BK397
    clear BK398
    clear HB
    have BK397 := n0_
    have BK398 := n1_
    have HB := n2_
    clear n0_ n1_ n2_
    (try clear hb)
    (try clear hb2)
    (try clear hk)
    (try clear hi)
    refine hK.out _ _ ⟨(blk_cell BK397.out 0).trans rfl, (blk_cell BK397.out 1).trans rfl, (blk_cell BK397.out 2).trans rfl, (blk_cell BK398.out 0).trans rfl, (blk_cell BK398.out 1).trans rfl, (blk_cell BK398.out 2).trans rfl, (blk_cell BK398.out 3).trans rfl, (blk_cell BK398.out 4).trans rfl, (blk_cell BK398.out 5).trans rfl⟩ (fun hHeld => ?_)
    clear hK K
    refine norm_ (a' := ?_) ?_ ?_
    rotate_left
    · show Act.put _ (some 14) _ = _
      simp only [Act.put, List.setIfInBounds_toArray, List.set_cons_zero, List.set_cons_succ, i64_w, i32_w]
      rfl
    refine pure_ (i := 6) (N := some 15) (v := ?_) (a' := ?_) #[true, true, true, true, true, true, true, false] rfl rfl (any_of HT_.out (by kernel_rfl)) (fun _ _ _ h => h) (Or.inl ⟨by rfl, ?_⟩) ?_ ?_
    rotate_left
    · intro w'
      go_simp
      with_reducible rfl
    rotate_left
    · simp only [Act.put, List.setIfInBounds_toArray, List.set_cons_zero, List.set_cons_succ, i64_w, i32_w]
      rfl
    refine pure_ (i := 7) (N := some 4) (v := ?_) (a' := ?_) #[true, true, true, true, true, true, true, true] rfl rfl (any_of HT_.out (by kernel_rfl)) (fun _ _ _ h => h) (Or.inl ⟨by rfl, ?_⟩) ?_ ?_
    rotate_left
    · intro w'
      go_simp
      with_reducible rfl
    rotate_left
    · simp only [Act.put, List.setIfInBounds_toArray, List.set_cons_zero, List.set_cons_succ, i64_w, i32_w]
      rfl
    refine done_ (done_of HT_.out (by kernel_rfl)) ?_
    try go_wp2
    go_ret
    exact ⟨by first | rfl | (simp [errW_none, errW_some] <;> rfl) | (simp [*, errW_none, errW_some] <;> rfl), by repeat (first | (with_reducible first | exact HB.out | apply below_alloc | apply pw_below_drewN | apply below_drew1 | refine below_set ?_ GE397.out | refine below_set ?_ GE398.out) | exact HB.out)⟩
  · replace c4 := Bool.eq_false_iff.mpr c4
    subst c4
    have H1 : (none) = some r := by rw [if_neg (show ¬ (false = true) by decide)] at H; exact H
    clear H
    have H := H1
    clear H1
    exact absurd H (by simp)

end Go.Proofs.YtlfoaaeelcmhiaaDoor.G
end

section
/- ScriptTells: its plain law, its walk. -/
namespace Go.Proofs.YtlfoaaeelcmhiaaDoor
open Go.RowKit Go.Proofs.YtlfoaaeelcmhiaaDoor.Reading G
open Go.Proofs.YtlfoaaeelcmhiaaDoorW.PrintWords hiding nums
set_option linter.unusedVariables false
theorem u64_of {n : Int} (h : (Lit.int .u64 n).wf = true) : Pure.u64ok n := by
  simp [Lit.wf, IntKind.min, IntKind.max, IntKind.signed, IntKind.bits] at h
  exact ⟨by omega, by omega⟩
theorem i64_of {n : Int} (h : (Lit.int .i64 n).wf = true) : Pure.i64ok n := by
  simp [Lit.wf, IntKind.min, IntKind.max, IntKind.signed, IntKind.bits] at h
  exact ⟨by omega, by omega⟩
theorem Pure.ScriptTells (kind key0 value0 code : Int) (is : Bool) (key value num : Int) (l : List S50) (hc : i64ok code) (hn : i64ok num) (hk : u64ok key) (hv : u64ok value) (hg : pairsGood l) (hl : l.length ≤ 400000000) :
    ∃ k, inclinelaw21_ScriptTells.f k kind key0 value0 code is key value num l = some true := by
  obtain ⟨K, hK⟩ := shown_is
  refine ⟨K + 3 * l.length + 30, ?_⟩
  unfold inclinelaw21_ScriptTells.f
  rw [hK _ (by omega), Option.bind_some, if_pos rfl, tell_is kind key0 value0 code is key value num l hc hn hk hv hg hl _ (by omega), Option.bind_some, refTell_is kind key0 value0 code is key value num l hc hn hk hv hg _ (by omega), Option.bind_some]
  simp
theorem Walks.ScriptTells {w : World} (hT : Tabs w) (cs0 : List Value) (x0 : Int × Int × Int) (hK0 : kOp.K w x0 cs0) (hg0 : goodOp x0) (cs1 : List Value) (x1 : Int × Bool × Int × Int × Int × List S50) (hK1 : kAns.K w x1 cs1) (hg1 : goodAns x1) (hb : x1.2.2.2.2.2.length ≤ 1048576) :
    Calls Tryd.prog 6 #[.agg cs0.toArray, .agg cs1.toArray] w fun e w' => e = .returned (.bool true) ∧ Below w.heap.size w w' := by
  obtain rfl := op_form hK0
  obtain ⟨A, c, rfl, hl, hC⟩ := ans_form hK1
  obtain ⟨g1, _, g3, g4, g5, g6⟩ := hg1
  obtain ⟨k, hk⟩ := Pure.ScriptTells x0.1 x0.2.1 x0.2.2 x1.1 x1.2.1 x1.2.2.1 x1.2.2.2.1 x1.2.2.2.2.1 x1.2.2.2.2.2 (i64_of g1) (i64_of g5) (u64_of g3) (u64_of g4)
    ⟨by omega, fun x hx => ⟨u64_of (g6.2 x hx).1, u64_of (g6.2 x hx).2⟩⟩ (by omega)
  exact inclinelaw21_ScriptTells.calls k _ _ _ _ _ _ _ _ A c _ true w hC hl hT hk
end Go.Proofs.YtlfoaaeelcmhiaaDoor
end

section
/- What the rows' list gives: the table of powers (Tabs); a world that holds what is listed. -/
namespace Go.Proofs.YtlfoaaeelcmhiaaDoor
open Go.ChangeShapes Go.WideShapes Go.ChangeAt Go.RowKit G
theorem gPow : Tryd.prog.globalNamed "internal/strconv.uint64pow10" = some 0 := by kernel_rfl
theorem gPowType : (Tryd.prog.globals[0]?).map (·.type) = some 89 := by kernel_rfl
theorem cells89 : Tryd.prog.cellsOf 89 = 20 := by kernel_rfl
theorem cells31 : Tryd.prog.cellsOf 31 = 1 := by kernel_rfl
def keepPow (x : String × DataW Unit) : Bool := x.1 == "internal/strconv.uint64pow10"
theorem tabs_of {W : World} (h : laidMetH Tryd.prog Rows.scriptTellsRow.laid W) : Tabs W :=
  Lib.tabIs_of_head (rest := []) gPow gPowType Tryd.underlying89 Tryd.underlying31 cells31 cells89 (laidMetH.filter keepPow h)
def cells1 : DataW Unit → List Value
  | .lit (.int k z) => [.int k z]
  | _ => []
def cells2 : DataW Unit → List Value
  | .agg ys => ys.flatMap cells1
  | d => cells1 d
def cells3 : DataW Unit → Array Value
  | .agg xs => (xs.flatMap cells2).toArray
  | _ => #[]
def putCells (d : DataW Unit) : Obj → Obj
  | .cells _ t frozen => .cells (cells3 d) t frozen
  | o => o
/-- A world for the witness: the settled one, the listed tables holding what is listed. -/
noncomputable def laidWorld (os : Os) : World :=
  { World.holding Tryd.prog os ⟨#[], #[], []⟩ with heap := (((((World.holding Tryd.prog os ⟨#[], #[], []⟩).heap.modify 0 (putCells Rows.laid_internal_strconv_uint64pow10)).modify 1 (putCells Rows.laid_unicode_utf8_first)).modify 2 (putCells Rows.laid_unicode_utf8_acceptRanges)).modify 4 (putCells Rows.laid_math_bits_deBruijn32tab)).modify 5 (putCells Rows.laid_math_bits_deBruijn64tab) }
theorem laid_met (os : Os) (args : Array Value) : laidMet Tryd.prog Rows.scriptTellsRow.laid ((laidWorld os).forCall (fun _ _ => 0) ⟨#[], args, []⟩).memory :=
  laidMet_of_run' 8 (by kernel_rfl) (by kernel_rfl)
end Go.Proofs.YtlfoaaeelcmhiaaDoor
end

section
/- The row of ScriptTells: for every input of bulk at most 1048576 the law answers true, and each argument reads as it did. Out of its walk (Walks.ScriptTells). -/
namespace Go.Proofs.YtlfoaaeelcmhiaaDoor.rowScriptTells
open Go.ChangeShapes Go.WideShapes Go.ChangeAt Go.RowKit Go.Proofs.YtlfoaaeelcmhiaaDoor.Reading
open Go.ChangeMaps (open_string shut_string)
set_option linter.unusedVariables false
theorem own : ownKnob Tryd.prog.godebug = none := by kernel_rfl
theorem laidOut : laidOutB Tryd.prog = true := by kernel_rfl
set_option maxRecDepth 100000 in
theorem contract (H : Type) (enc : TypeId × Value → H) (W : World) (base : Nat) (args : Array Value) (ds gs : List (DataW H)) (before : List MemPlace)
    (hval0 : ∀ (j : Nat) t v, Tryd.f6.params[j]? = some t → args[j]? = some v → Value.okWide Tryd.prog W .any base t v)
    (hW : DataW.Whole enc Tryd.prog Tryd.f6.params.toList Rows.scriptTellsSpec.vars false W args.toList ds gs before) (hk0 : Rows.uptoSmall H (ds ++ gs) = true) (hL : laidMetH Tryd.prog Rows.scriptTellsUptoRow.laid W)
    (hsz0 : (DataW.weightsEach Tryd.prog (Tryd.f6.params.toList ++ Rows.scriptTellsSpec.plain.varTypes Tryd.prog) (ds ++ gs)).all (· ≤ reachBytes) = true) :
    Calls Tryd.prog 6 args W fun e W' => ∃ v, e = .returned v ∧ Rows.scriptTellsSpec.post enc Tryd.prog Tryd.f6 false true false false W args v W' := by
  have hval := hval0
  have hsz := hsz0
  have hW' := hW
  obtain ⟨p, q, hA0, hV, rfl, hfz, hnd⟩ := hW
  have hA : DataW.TrodAll enc Tryd.prog W 0 (fun _ => true) true Tryd.f6.params.toList args.toList ds p := hA0
  rw [Tryd.params6] at hA hval hsz
  obtain ⟨v0, vs0, d0, ds0, p0, q0, hargs, rfl, rfl, h0, r0⟩ := trodAll_cons hA
  obtain ⟨v1, vs1, d1, ds1, p1, q1, rfl, rfl, rfl, h1, r1⟩ := trodAll_cons r0
  obtain ⟨rfl, rfl, rfl⟩ := trodAll_nil r1
  obtain rfl : args = #[v0, v1] := by cases args; simp_all
  obtain ⟨rfl, rfl⟩ := trodVars_none hV
  have hwt := weights_at hsz
  have hk : Rows.uptoBulkAll (d0 :: d1 :: ([] : List (DataW H))) ≤ 1048576 := by
    have h := of_decide_eq_true hk0
    simpa using h
  have k0 := h0
  have lt0 : ∀ x ∈ p0, x.block < W.heap.size := by obtain ⟨m, hm⟩ := k0; exact DataW.trod_lt m _ _ _ hm
  have wt0 : ∀ n ∈ DataW.weights Tryd.prog 38 d0, n ≤ reach := fun n hn => hwt n (by simp only [List.cons_append, List.nil_append, List.append_nil, DataW.weightsEach, List.mem_append]; first | exact hn | exact (.inl hn) | exact hn)
  obtain ⟨cs0, x0, rfl, hK0, hg0, hb0⟩ := agg_top (okWide_struct' Tryd.underlying38 (hval 0 38 v0 rfl rfl)) (open38 enc W 0 (fun _ => true) true) h0 wt0
  have k1 := h1
  have lt1 : ∀ x ∈ p1, x.block < W.heap.size := by obtain ⟨m, hm⟩ := k1; exact DataW.trod_lt m _ _ _ hm
  have wt1 : ∀ n ∈ DataW.weights Tryd.prog 44 d1, n ≤ reach := fun n hn => hwt n (by simp only [List.cons_append, List.nil_append, List.append_nil, DataW.weightsEach, List.mem_append]; first | exact hn | exact (.inr (.inl hn)) | exact (.inr hn))
  obtain ⟨cs1, x1, rfl, hK1, hg1, hb1⟩ := agg_top (okWide_struct' Tryd.underlying44 (hval 1 44 v1 rfl rfl)) (open44 enc W 0 (fun _ => true) true) h1 wt1
  simp only [Rows.uptoBulkAll] at hk
  clear hA0 hval0 hsz0 hsz
  refine (Walks.ScriptTells (tabs_of hL) cs0 x0 hK0 hg0 cs1 x1 hK1 hg1 (by omega)).mono fun e W' ⟨he, bel⟩ => ?_
  subst he
  exact ⟨_, rfl, _, _, _, [], _, [], hW', trodAll_mk1 (shut_bool Tryd.underlying4 _), (trodAll_cons_mk (Below.trod laidOut (by kernel_rfl) (of_decide_eq_true (by kernel_rfl)) k0 bel lt0) (trodAll_cons_mk (Below.trod laidOut (by kernel_rfl) (of_decide_eq_true (by kernel_rfl)) k1 bel lt1) trodAll_mk0)), rfl, bel.frame _, fun h => by cases h⟩
set_option maxRecDepth 100000 in
theorem lifted (os : Os) (started : os.Started) (H : Type) (enc : TypeId × Value → H) (F : Stop.Interp) :
    ReturnsInHanded {} Tryd.checked os 6 .any ((Rows.OpenSpec.upto Rows.scriptTellsSpec).preRow enc Tryd.prog Tryd.f6 Rows.scriptTellsUptoRow.domain false Rows.scriptTellsUptoRow.laid) (((Rows.OpenSpec.upto Rows.scriptTellsSpec).at F).post enc Tryd.prog Tryd.f6 false true false false) := by
  obtain ⟨places, hx⟩ : ∃ places, DataW.whole enc Tryd.prog ((laidWorld os).forCall (fun _ _ => 0) ⟨#[], #[.agg #[.int .i64 0, .int .u64 0, .int .u64 0], .agg #[.int .i64 0, .bool false, .int .u64 0, .int .u64 0, .int .i64 0, .slice none 0 0]], []⟩).memory Tryd.f6.params.toList Rows.scriptTellsSpec.vars false (#[.agg #[.int .i64 0, .int .u64 0, .int .u64 0], .agg #[.int .i64 0, .bool false, .int .u64 0, .int .u64 0, .int .i64 0, .slice none 0 0]] : Array Value).toList 8 = some ([.agg [.lit (.int .i64 0), .lit (.int .u64 0), .lit (.int .u64 0)], .agg [.lit (.int .i64 0), .lit (.bool false), .lit (.int .u64 0), .lit (.int .u64 0), .lit (.int .i64 0), .nil]], [], places) := ⟨[], by kernel_rfl⟩
  refine returnsInHanded_of_row (C := Tryd.checked) (s := (Rows.OpenSpec.upto Rows.scriptTellsSpec)) own started (by kernel_rfl) Tryd.func6
    (witness_row_at (enc := enc) (C := Tryd.checked) false (laidWorld os) #[.agg #[.int .i64 0, .int .u64 0, .int .u64 0], .agg #[.int .i64 0, .bool false, .int .u64 0, .int .u64 0, .int .i64 0, .slice none 0 0]] rfl (by kernel_rfl) (by kernel_rfl) (by kernel_rfl)
      (OpenSpec.preRow_of_cond 8 hx (by kernel_rfl) (fun k hk => by cases hk; kernel_rfl) (by kernel_rfl) (laid_met os _))) ?_
  intro W base args ds gs before hval hW _ hcond hsz hL _ _
  exact contract H enc W base args ds gs before hval hW (hcond _ rfl) hL hsz
theorem over : Rows.scriptTellsUptoRow.holds Tryd.pinned (Rows.OpenSpec.upto Rows.scriptTellsSpec) :=
  OpenClaim.holds_of_cond 6 Tryd.f6 rfl rfl rfl rfl rfl rfl rfl ⟨rfl, rfl, rfl, rfl, rfl⟩ rfl rfl rfl rfl rfl (by kernel_rfl) Tryd.func6 (by kernel_rfl)
    (of_decide_eq_true (by kernel_rfl)) (by unfold Func.isWrapper; first | (rw [if_pos (by decide +kernel)]; kernel_rfl) | (rw [if_neg (by decide +kernel)]; exact ⟨rfl, rfl⟩))
    (fun os started H enc _ F => by rw [OpenClaim.pre_eq_preRow]; exact lifted os started H enc F)
theorem plain (f : FuncId) (fn : Func) (hf : Tryd.pinned.checked.prog.funcNamed "incline/inclinelaw21.ScriptTells" = some f) (hfn : Tryd.pinned.checked.prog.funcs[f]? = some fn) :
    false = Tryd.pinned.checked.prog.looks [] ∧ ∀ (j : Nat) t, fn.params[j]? = some t → Tryd.pinned.checked.prog.wantsStandIn t = false := by
  obtain rfl : f = 6 := Option.some.inj ((show Tryd.prog.funcNamed "incline/inclinelaw21.ScriptTells" = some 6 by kernel_rfl).symm.trans hf) |>.symm
  obtain rfl : fn = Tryd.f6 := (Option.some.inj (Tryd.func6.symm.trans hfn)).symm
  refine ⟨by kernel_rfl, fun j t ht => ?_⟩
  rw [Tryd.params6] at ht
  have hm : t ∈ [38, 44] := by simpa using Array.mem_of_getElem? ht
  have hall : ([38, 44].all fun u => !Tryd.prog.wantsStandIn u) = true := by kernel_rfl
  exact (show Tryd.prog.wantsStandIn t = false by simpa using List.all_eq_true.1 hall t hm)
end Go.Proofs.YtlfoaaeelcmhiaaDoor.rowScriptTells
namespace Go.Proofs.YtlfoaaeelcmhiaaDoor
/-- The card. -/
theorem scriptTells_holds : Rows.ScriptTellsUptoCardSaid :=
  Claim7.holds_tied_plain_at .later [] _ _ _ _ rowScriptTells.over (fun _ h => by cases h) (by kernel_rfl) (fun _ h => by cases h) scriptTellsUpto_row_tie rfl ⟨rfl, rfl⟩ (by kernel_rfl) rfl rowScriptTells.plain (by kernel_rfl)
#print axioms scriptTells_holds
end Go.Proofs.YtlfoaaeelcmhiaaDoor
end
