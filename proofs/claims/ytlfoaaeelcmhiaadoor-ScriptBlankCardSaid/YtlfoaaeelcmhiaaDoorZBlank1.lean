/- The last of the claim's own texts, in one file: Gx33, WalkBlank, RowScriptBlank. Conditions: each theorem's own. -/
import Derived.Test.YtlfoaaeelcmhiaaDoorZBase1
import Derived.Test.YtlfoaaeelcmhiaaDoorZBase2
import Derived.Test.YtlfoaaeelcmhiaaDoorZBase4
import Derived.Test.YtlfoaaeelcmhiaaDoorRows
import Derived.Test.YtlfoaaeelcmhiaaDoorCards
import Derived.Test.YtlfoaaeelcmhiaaDoorTie
import Derived.WalkKit
import Derived.ProofKit
import Derived.OpenShut
import Derived.ShutString
import Derived.ChangeOld
import Derived.Below
import Derived.SizedLaws
import Derived.JoinedCond
import Derived.Deep.CondSized
section
-- Written by a program of this session (wip/gprint.py: the kit's print, with contracts proved by hand)
namespace Go.Proofs.YtlfoaaeelcmhiaaDoor.G
open Go.RowKit Go.Proofs.YtlfoaaeelcmhiaaDoorW.PrintWords Go.Proofs.YtlfoaaeelcmhiaaDoorW.PrintLast Go.Proofs.YtlfoaaeelcmhiaaDoorW.PrintMore
attribute [local go_sem] max2_int min2_int max_two min_two max_three min_three max_four min_four   -- for this text's walks alone
set_option linter.unusedVariables false
set_option linter.unusedSimpArgs false

/-! ### inclinelaw21_ScriptBlank: function 9 -/
mutual
def inclinelaw21_ScriptBlank.l0 : Nat → ByteArray → ByteArray → Bool → ByteArray → Int → Option (Bool)
  | 0, _, _, _, _, _ => none
  | k + 1, x0, x1, x5, x6, x7 => if x7 < (x1.size : Int) then (if 0 ≤ x7 then (if (bt x1 x7) = 10 then (inclinelaw21_ScriptBlank.l0 k x0 x1 x5 x6 (wrap64 (x7 + 1))) else (if x7 ≤ (wrap64 (x7 + 1)) then (if (wrap64 (x7 + 1)) ≤ (x1.size : Int) then (if x6.size + (x1.extract (x7 : Int).toNat ((wrap64 (x7 + 1)) : Int).toNat).size ≤ 9223372036854775807 then (inclinelaw21_ScriptBlank.l0 k x0 x1 x5 (x6 ++ (x1.extract (x7 : Int).toNat ((wrap64 (x7 + 1)) : Int).toNat)) (wrap64 (x7 + 1))) else (none)) else (none)) else (none))) else (none)) else (inclinelaw21_ScriptBlank.l1 k x0 x5 x6 (([] : List Int)) 0)
def inclinelaw21_ScriptBlank.l1 : Nat → ByteArray → Bool → ByteArray → List Int → Int → Option (Bool)
  | 0, _, _, _, _, _ => none
  | k + 1, x0, x5, x6, x8, x9 => if x9 < (x0.size : Int) then (inclinelaw21_ScriptBlank.j2 k x0 x5 x6 x8 x9 (decide (x9 ≤ 65536))) else (inclinelaw21_ScriptBlank.j2 k x0 x5 x6 x8 x9 false)
def inclinelaw21_ScriptBlank.j2 : Nat → ByteArray → Bool → ByteArray → List Int → Int → Bool → Option (Bool)
  | 0, _, _, _, _, _, _ => none
  | k + 1, x0, x5, x6, x8, x9, x45 => if x45 = true then (if 0 ≤ x9 then (if x9 < (x0.size : Int) then (if (bt x0 x9) = 32 then ((some (([32, bt x0 x9, 32] : List Int) : List Int)).bind fun y429 => (if x8.length + y429.length < 140737488355328 then (inclinelaw21_ScriptBlank.l1 k x0 x5 x6 (x8 ++ y429) (wrap64 (x9 + 1))) else (none))) else (if (bt x0 x9) = 10 then ((some (([32, bt x0 x9, 32] : List Int) : List Int)).bind fun y435 => (if x8.length + y435.length < 140737488355328 then (inclinelaw21_ScriptBlank.l1 k x0 x5 x6 (x8 ++ y435) (wrap64 (x9 + 1))) else (none))) else (if x8.length < 140737488355328 then (inclinelaw21_ScriptBlank.l1 k x0 x5 x6 (x8 ++ [bt x0 x9]) (wrap64 (x9 + 1))) else (none)))) else (none)) else (none)) else (if x6.size + 3 ≤ 9223372036854775807 then (if (x6 ++ (⟨#[10, 32, 10]⟩ : ByteArray)).size + (strOfNums x8).size ≤ 9223372036854775807 then (if ((x6 ++ (⟨#[10, 32, 10]⟩ : ByteArray)) ++ (strOfNums x8)).size + 3 ≤ 9223372036854775807 then (if (((x6 ++ (⟨#[10, 32, 10]⟩ : ByteArray)) ++ (strOfNums x8)) ++ (⟨#[32, 32, 10]⟩ : ByteArray)).size + x6.size ≤ 9223372036854775807 then (if (((((x6 ++ (⟨#[10, 32, 10]⟩ : ByteArray)) ++ (strOfNums x8)) ++ (⟨#[32, 32, 10]⟩ : ByteArray)) ++ x6).size : Int) > 65536 then (some x5) else ((script_Parse.f x0).bind fun bt444 => ((script_Parse.f ((((x6 ++ (⟨#[10, 32, 10]⟩ : ByteArray)) ++ (strOfNums x8)) ++ (⟨#[32, 32, 10]⟩ : ByteArray)) ++ x6)).bind fun bt449 => (if x5 = true then (if bt444.2.2 = bt449.2.2 then ((inclinelaw21_same.f k bt444.1 bt449.1).bind fun t454 => (if t454 = true then (if bt444.2.2 = 0 then (if bt449.2.1 = 0 then (some true) else (none)) else (some (bt449.2.1 == (wrap64 (bt444.2.1 + 2))))) else (none))) else (none)) else (none))))) else (none)) else (none)) else (none)) else (none))
end
def inclinelaw21_ScriptBlank.f (k : Nat) (a0 : ByteArray) (a1 : ByteArray) : Option (Bool) := (inclinelaw21_shown.f k).bind fun t425 => (if t425 = true then (inclinelaw21_ScriptBlank.l0 k a0 a1 t425 (⟨#[35]⟩ : ByteArray) 0) else (none))
theorem inclinelaw21_ScriptBlank.mono_l : ∀ k, (∀ y0 y1 y2 y3 y4, LeO (inclinelaw21_ScriptBlank.l0 k y0 y1 y2 y3 y4) (inclinelaw21_ScriptBlank.l0 (k + 1) y0 y1 y2 y3 y4)) ∧ (∀ y0 y1 y2 y3 y4, LeO (inclinelaw21_ScriptBlank.l1 k y0 y1 y2 y3 y4) (inclinelaw21_ScriptBlank.l1 (k + 1) y0 y1 y2 y3 y4)) ∧ (∀ y0 y1 y2 y3 y4 y5, LeO (inclinelaw21_ScriptBlank.j2 k y0 y1 y2 y3 y4 y5) (inclinelaw21_ScriptBlank.j2 (k + 1) y0 y1 y2 y3 y4 y5))
  | 0 => ⟨fun _ _ _ _ _ r h => by simp [inclinelaw21_ScriptBlank.l0] at h, fun _ _ _ _ _ r h => by simp [inclinelaw21_ScriptBlank.l1] at h, fun _ _ _ _ _ _ r h => by simp [inclinelaw21_ScriptBlank.j2] at h⟩
  | k + 1 => by
    obtain ⟨ih0, ih1, ih2⟩ := inclinelaw21_ScriptBlank.mono_l k
    refine ⟨?_, ?_, ?_⟩
    · intro y0 y1 y2 y3 y4
      unfold inclinelaw21_ScriptBlank.l0
      repeat' first
      | (with_reducible exact ih0 _ _ _ _ _)
      | (with_reducible exact ih1 _ _ _ _ _)
      | (with_reducible exact ih2 _ _ _ _ _ _)
      | (with_reducible exact inclinelaw21_same.mono _ _ _)
      | (with_reducible exact inclinelaw21_shown.mono _)
      | (with_reducible exact LeO.refl _)
      | (with_reducible exact LeO.none _)
      | (with_reducible refine LeO.ite ?_ ?_)
      | (with_reducible refine LeO.bind ?_ (fun _ => ?_))
      | exact ih0 _ _ _ _ _
      | exact ih1 _ _ _ _ _
      | exact ih2 _ _ _ _ _ _
      | exact inclinelaw21_same.mono _ _ _
      | exact inclinelaw21_shown.mono _
      | exact LeO.none _
      | refine LeO.ite ?_ ?_
      | refine LeO.bind ?_ (fun _ => ?_)
    · intro y0 y1 y2 y3 y4
      unfold inclinelaw21_ScriptBlank.l1
      repeat' first
      | (with_reducible exact ih0 _ _ _ _ _)
      | (with_reducible exact ih1 _ _ _ _ _)
      | (with_reducible exact ih2 _ _ _ _ _ _)
      | (with_reducible exact inclinelaw21_same.mono _ _ _)
      | (with_reducible exact inclinelaw21_shown.mono _)
      | (with_reducible exact LeO.refl _)
      | (with_reducible exact LeO.none _)
      | (with_reducible refine LeO.ite ?_ ?_)
      | (with_reducible refine LeO.bind ?_ (fun _ => ?_))
      | exact ih0 _ _ _ _ _
      | exact ih1 _ _ _ _ _
      | exact ih2 _ _ _ _ _ _
      | exact inclinelaw21_same.mono _ _ _
      | exact inclinelaw21_shown.mono _
      | exact LeO.none _
      | refine LeO.ite ?_ ?_
      | refine LeO.bind ?_ (fun _ => ?_)
    · intro y0 y1 y2 y3 y4 y5
      unfold inclinelaw21_ScriptBlank.j2
      repeat' first
      | (with_reducible exact ih0 _ _ _ _ _)
      | (with_reducible exact ih1 _ _ _ _ _)
      | (with_reducible exact ih2 _ _ _ _ _ _)
      | (with_reducible exact inclinelaw21_same.mono _ _ _)
      | (with_reducible exact inclinelaw21_shown.mono _)
      | (with_reducible exact LeO.refl _)
      | (with_reducible exact LeO.none _)
      | (with_reducible refine LeO.ite ?_ ?_)
      | (with_reducible refine LeO.bind ?_ (fun _ => ?_))
      | exact ih0 _ _ _ _ _
      | exact ih1 _ _ _ _ _
      | exact ih2 _ _ _ _ _ _
      | exact inclinelaw21_same.mono _ _ _
      | exact inclinelaw21_shown.mono _
      | exact LeO.none _
      | refine LeO.ite ?_ ?_
      | refine LeO.bind ?_ (fun _ => ?_)
theorem inclinelaw21_ScriptBlank.mono : ∀ a0 a1 k, LeO (inclinelaw21_ScriptBlank.f k a0 a1) (inclinelaw21_ScriptBlank.f (k + 1) a0 a1) := by
  intro a0 a1 k
  obtain ⟨ih0, ih1, ih2⟩ := inclinelaw21_ScriptBlank.mono_l k
  unfold inclinelaw21_ScriptBlank.f
  repeat' first
      | (with_reducible exact ih0 _ _ _ _ _)
      | (with_reducible exact ih1 _ _ _ _ _)
      | (with_reducible exact ih2 _ _ _ _ _ _)
      | (with_reducible exact inclinelaw21_same.mono _ _ _)
      | (with_reducible exact inclinelaw21_shown.mono _)
      | (with_reducible exact LeO.refl _)
      | (with_reducible exact LeO.none _)
      | (with_reducible refine LeO.ite ?_ ?_)
      | (with_reducible refine LeO.bind ?_ (fun _ => ?_))
      | exact ih0 _ _ _ _ _
      | exact ih1 _ _ _ _ _
      | exact ih2 _ _ _ _ _ _
      | exact inclinelaw21_same.mono _ _ _
      | exact inclinelaw21_shown.mono _
      | exact LeO.none _
      | refine LeO.ite ?_ ?_
      | refine LeO.bind ?_ (fun _ => ?_)
set_option maxHeartbeats 8000000 in
set_option maxRecDepth 100000 in
theorem inclinelaw21_ScriptBlank.calls (k : Nat) (a0 : ByteArray) (a1 : ByteArray) (r : Bool) (w : World) (hT : Tabs w) (h : inclinelaw21_ScriptBlank.f k a0 a1 = some r) :
    Calls Tryd.prog 9 #[.string a0, .string a1] w fun e w' => e = .returned (.bool r) ∧ Below w.heap.size w w' := by
  have HT := Aside0.mk hT
  clear hT
  have HB := Aside0.mk (Below.refl w.heap.size w)
  have H : ((inclinelaw21_shown.f k).bind fun t425 => (if t425 = true then (inclinelaw21_ScriptBlank.l0 k a0 a1 t425 (⟨#[35]⟩ : ByteArray) 0) else (none))) = some r := h
  clear h
  replace H := Option.bind_eq_some_iff.mp H
  obtain ⟨t425, A30, H⟩ := H
  replace H : (if t425 = true then (inclinelaw21_ScriptBlank.l0 k a0 a1 t425 (⟨#[35]⟩ : ByteArray) 0) else (none)) = some r := H
  have A3 := Aside0.mk A30
  clear A30
  by_cases c4 : t425 = true
  · subst c4
    have H1 : (inclinelaw21_ScriptBlank.l0 k a0 a1 true (⟨#[35]⟩ : ByteArray) 0) = some r := by rw [if_pos rfl] at H; exact H
    clear H
    have H := H1
    clear H1
    have H' := Aside0.mk H
    clear H
    go_enter Tryd.func9, Tryd.ntmps9
    go_wp2_with (first | ((with_reducible refine gate_callee (f := 11) rfl ?_); refine goesL_ (some 17) rfl rfl Tryd.func11 (by kernel_rfl) rfl #[] rfl (by (try simp only [List.map_toArray, List.map_cons, List.map_nil]); first | done | rfl | (simp only [List.length_drop, List.length_take]; rfl)) ?_; (with_reducible refine (inclinelaw21_shown.calls k  true _ ?sideT A3.out).mono ?_); (case sideT => exact Tabs.keep HT.out (by repeat (first | (with_reducible first | exact HB.out | apply below_alloc | apply pw_below_drewN | apply below_drew1) | exact HB.out))); rintro e w5 ⟨rfl, hb⟩; refine ⟨_, rfl, ?_⟩; have n0_ := Aside0.mk (below_step (by repeat (first | (with_reducible first | exact HB.out | apply below_alloc | apply pw_below_drewN | apply below_drew1) | exact HB.out)) hb); clear HB; have HB := n0_; clear n0_; (try clear hb); (try clear hb2); (try clear hk); (try clear hi)))
    go_loopg [6, 7] k (fun kq v6 v7 w' => ∃ (x6_1 : ByteArray) (x7_1 : Int), v6 = .string x6_1 ∧ v7 = .int .i64 x7_1 ∧ Aside0 (inclinelaw21_ScriptBlank.l0 kq a0 a1 true x6_1 x7_1 = some r) ∧ Aside0 (kq ≤ k) ∧ Aside0 (Below w.heap.size w w'))
    case atStart => exact ⟨((⟨#[35]⟩ : ByteArray)), (0), (by first | rfl | (simp; done) | (simp [*]; done)), (by first | rfl | (simp; done) | (simp [*]; done)), H', ⟨Nat.le_refl _⟩, ⟨by repeat (first | (with_reducible first | exact HB.out | apply below_alloc | apply pw_below_drewN | apply below_drew1) | exact HB.out)⟩⟩
    case round =>
      clear H'
      try clear c1
      try clear p2
      try clear c4
      obtain ⟨x6_1, x7_1, rfl, rfl, HA, HK1, HB⟩ := hrel
      cases gk with
      | zero => exact absurd HA.out (by simp [inclinelaw21_ScriptBlank.l0])
      | succ k1 =>
        have H := HA.out
        clear HA
        simp only [inclinelaw21_ScriptBlank.l0] at H
        by_cases c6 : x7_1 < (a1.size : Int)
        · rw [if_pos c6] at H
          have c6b0 : decide (x7_1 < (a1.size : Int)) = true := decide_eq_true c6
          clear c6
          by_cases c7 : 0 ≤ x7_1
          · rw [if_pos c7] at H
            have c7b0 : decide (0 ≤ x7_1) = true := decide_eq_true c7
            clear c7
            by_cases c9 : (bt a1 x7_1) = 10
            · rw [if_pos c9] at H
              have c9b0 : ((bt a1 x7_1) == 10) = true := beq_iff_eq.mpr c9
              have c9b1 : ((bt a1 x7_1) != 10) = false := bne_eq_false_iff_eq.mpr c9
              clear c9
              have H' := Aside0.mk H
              clear H
              have p8 : 0 ≤ (x7_1 : Int) := of_decide_eq_true (by first | (with_reducible assumption) | assumption)
              have q8 : x7_1 < (a1.size : Int) := of_decide_eq_true (by first | (with_reducible assumption) | assumption)
              have hx8 := bt_at a1 x7_1
              replace p8 := eq_true p8
              replace q8 := eq_true q8
              go_wp2
              go_roundg k1
              case measure => have := HK1.out; omega
              case rel => exact ⟨(x6_1), (wrap64 (x7_1 + 1)), (by first | rfl | (simp; done) | (simp [*]; done)), (by first | rfl | (simp; done) | (simp [*]; done)), H', ⟨by have := HK1.out; omega⟩, ⟨by repeat (first | (with_reducible first | exact HB.out | apply below_alloc | apply pw_below_drewN | apply below_drew1) | exact HB.out)⟩⟩
            · rw [if_neg c9] at H
              have c9b0 : ((bt a1 x7_1) == 10) = false := beq_eq_false_iff_ne.mpr c9
              have c9b1 : ((bt a1 x7_1) != 10) = true := bne_iff_ne.mpr c9
              have c10b0 := eq_true (of_decide_eq_true (by first | (with_reducible assumption) | assumption) : 0 ≤ x7_1)
              by_cases c11 : x7_1 ≤ (wrap64 (x7_1 + 1))
              · rw [if_pos c11] at H
                have c11b0 := eq_true c11
                have c11b1 : decide (x7_1 ≤ (wrap64 (x7_1 + 1))) = true := decide_eq_true c11
                by_cases c12 : (wrap64 (x7_1 + 1)) ≤ (a1.size : Int)
                · rw [if_pos c12] at H
                  have c12b0 := eq_true c12
                  have c12b1 : decide ((wrap64 (x7_1 + 1)) ≤ (a1.size : Int)) = true := decide_eq_true c12
                  by_cases c13 : x6_1.size + (a1.extract (x7_1 : Int).toNat ((wrap64 (x7_1 + 1)) : Int).toNat).size ≤ 9223372036854775807
                  · rw [if_pos c13] at H
                    have c13b0 := eq_true c13
                    have c13b1 : decide (x6_1.size + (a1.extract (x7_1 : Int).toNat ((wrap64 (x7_1 + 1)) : Int).toNat).size ≤ 9223372036854775807) = true := decide_eq_true c13
                    try have c13b2 : (9223372036854775807 < x6_1.size + (a1.extract (x7_1 : Int).toNat ((wrap64 (x7_1 + 1)) : Int).toNat).size) = False := eq_false (Nat.not_lt.2 c13)
                    have H' := Aside0.mk H
                    clear H
                    have p8 : 0 ≤ (x7_1 : Int) := of_decide_eq_true (by first | (with_reducible assumption) | assumption)
                    have q8 : x7_1 < (a1.size : Int) := of_decide_eq_true (by first | (with_reducible assumption) | assumption)
                    have hx8 := bt_at a1 x7_1
                    replace p8 := eq_true p8
                    replace q8 := eq_true q8
                    go_wp2
                    go_roundg k1
                    case measure => have := HK1.out; omega
                    case rel => exact ⟨(x6_1 ++ (a1.extract (x7_1 : Int).toNat ((wrap64 (x7_1 + 1)) : Int).toNat)), (wrap64 (x7_1 + 1)), (by first | rfl | (simp; done) | (simp [*]; done)), (by first | rfl | (simp; done) | (simp [*]; done)), H', ⟨by have := HK1.out; omega⟩, ⟨by repeat (first | (with_reducible first | exact HB.out | apply below_alloc | apply pw_below_drewN | apply below_drew1) | exact HB.out)⟩⟩
                  · rw [if_neg c13] at H
                    exact absurd H (by simp)
                · rw [if_neg c12] at H
                  exact absurd H (by simp)
              · rw [if_neg c11] at H
                exact absurd H (by simp)
          · rw [if_neg c7] at H
            exact absurd H (by simp)
        · rw [if_neg c6] at H
          have c6b0 : decide (x7_1 < (a1.size : Int)) = false := decide_eq_false c6
          clear c6
          obtain ⟨y426, hy426⟩ : ∃ y_ : List Int, y_ = (([] : List Int)) := ⟨_, rfl⟩
          replace H : (inclinelaw21_ScriptBlank.l1 k1 a0 true x6_1 y426 0) = some r := by first | (rw [hy426]; with_reducible exact H) | (have H2_ := (Option.bind_some _ _).symm.trans H; rw [hy426]; with_reducible exact H2_) | (have H2_ := (Option.bind_some _ _).symm.trans H; with_reducible exact H2_) | with_reducible exact H | (rw [hy426]; exact H) | exact H
          have Ny426 := Aside0.mk hy426
          clear hy426
          have H' := Aside0.mk H
          clear H
          go_wp2_with (first | ((with_reducible refine gate_dst (N := 37) rfl ?_); refine Kd.R_lit (Kd.int .u8) _ 5 ?hg (N := 37) ?hd (xs := ([] : List Int)) (inner := []) (ok := fun _ => True) (okp := fun _ => True) ?hr ?hp (fun _ hk => hk) trivial (Below.refl _ _) (Nat.le_refl _) (by simp) ?_; (case hd => rfl); (case hg => rfl); (case hr => first | (go_simp; done) | (go_simp; rfl)); (case hp => exact (Reps.none _ _)); intro v427 w14 ho15 hb hg_ hnew_; clear hg_ hnew_; (first | rw [← Ny426.out] at ho15 | (simp only [Int.reduceToNat] at ho15; rw [← Ny426.out] at ho15)); have n0_ := Aside0.mk (Kd.R_lower ho15 (below_size (by repeat (first | (with_reducible first | exact HB.out | apply below_alloc | apply pw_below_drewN | apply below_drew1) | exact HB.out)))); have n1_ := Aside0.mk (below_step (by repeat (first | (with_reducible first | exact HB.out | apply below_alloc | apply pw_below_drewN | apply below_drew1) | exact HB.out)) hb); clear HB; have HO428 := n0_; have HB := n1_; clear n0_ n1_; clear hb ho15))
          go_loopg [8, 9] k1 (fun kq v8 v9 w' => ∃ (x8_2 : List Int) (x9_2 : Int), v9 = .int .i64 x9_2 ∧ Aside0 (inclinelaw21_ScriptBlank.l1 kq a0 true x6_1 x8_2 x9_2 = some r) ∧ Aside0 (kq ≤ k1) ∧ Aside0 (Kd.R (Kd.int .u8) 5 w' w.heap.size (fun _ => True) v8 x8_2) ∧ Aside0 (Below w.heap.size w w'))
          case atStart => exact ⟨(y426), (0), (by first | rfl | (simp; done) | (simp [*]; done)), H', ⟨Nat.le_refl _⟩, ⟨by (with_reducible repeat (first | apply Kd.R_alloc | apply Kd.R_drewN | apply Kd.R_drew)); exact HO428.out⟩, ⟨by repeat (first | (with_reducible first | exact HB.out | apply below_alloc | apply pw_below_drewN | apply below_drew1) | exact HB.out)⟩⟩
          case round =>
            clear H'
            try clear c1
            try clear p2
            try clear c4
            try clear c6
            try clear c6b0
            try clear p6
            try clear c7
            try clear c7b0
            try clear p8
            try clear q8
            try clear hx8
            try clear c9
            try clear c9b0
            try clear c9b1
            try clear c10
            try clear c10b0
            try clear c11
            try clear c11b0
            try clear c11b1
            try clear c12
            try clear c12b0
            try clear c12b1
            try clear c13
            try clear c13b0
            try clear c13b1
            try clear c13b2
            try clear p2
            try clear p8
            try clear q8
            obtain ⟨x8_2, x9_2, rfl, HA, HK2, HO_8, HB⟩ := hrel
            cases gk with
            | zero => exact absurd HA.out (by simp [inclinelaw21_ScriptBlank.l1])
            | succ k2 =>
              have H := HA.out
              clear HA
              simp only [inclinelaw21_ScriptBlank.l1] at H
              have HC16 := Aside0.mk H
              clear H
              go_upto_region 12 with (fail)
              go_cut [45] (fun v45 wc => ∃ (kq : Nat) (x45_15 : Bool), v45 = .bool x45_15 ∧ Aside0 (inclinelaw21_ScriptBlank.j2 kq a0 true x6_1 x8_2 x9_2 x45_15 = some r) ∧ Aside0 (kq ≤ k2) ∧ Aside0 (Kd.R (Kd.int .u8) 5 wc w.heap.size (fun _ => True) u8 x8_2) ∧ Aside0 (Below w.heap.size w wc))
              case first =>
                have H := HC16.out
                clear HC16
                by_cases c17 : x9_2 < (a0.size : Int)
                · rw [if_pos c17] at H
                  have c17b0 : decide (x9_2 < (a0.size : Int)) = true := decide_eq_true c17
                  clear c17
                  (first | rw [c17b0] | (simp only [i64_w, i32_w]; rw [c17b0]) | skip)
                  have H' := Aside0.mk H
                  clear H
                  go_wp2
                  go_meet
                  case rel => exact ⟨_, (decide (x9_2 ≤ 65536)), (by first | rfl | (simp; done) | (simp [*]; done)), H', ⟨by have := HK1.out; have := HK2.out; first | omega | exact Nat.le_refl _⟩, ⟨by (with_reducible repeat (first | apply Kd.R_alloc | apply Kd.R_drewN | apply Kd.R_drew)); exact HO_8.out⟩, ⟨by repeat (first | (with_reducible first | exact HB.out | apply below_alloc | apply pw_below_drewN | apply below_drew1) | exact HB.out)⟩⟩
                · rw [if_neg c17] at H
                  have c17b0 : decide (x9_2 < (a0.size : Int)) = false := decide_eq_false c17
                  clear c17
                  (first | rw [c17b0] | (simp only [i64_w, i32_w]; rw [c17b0]) | skip)
                  have H' := Aside0.mk H
                  clear H
                  go_wp2
                  go_meet
                  case rel => exact ⟨_, (false), (by first | rfl | (simp; done) | (simp [*]; done)), H', ⟨by have := HK1.out; have := HK2.out; first | omega | exact Nat.le_refl _⟩, ⟨by (with_reducible repeat (first | apply Kd.R_alloc | apply Kd.R_drewN | apply Kd.R_drew)); exact HO_8.out⟩, ⟨by repeat (first | (with_reducible first | exact HB.out | apply below_alloc | apply pw_below_drewN | apply below_drew1) | exact HB.out)⟩⟩
              case rest =>
                clear HC16
                try clear c1
                try clear p2
                try clear c4
                try clear c6
                try clear c6b0
                try clear p6
                try clear c7
                try clear c7b0
                try clear p8
                try clear q8
                try clear hx8
                try clear c9
                try clear c9b0
                try clear c9b1
                try clear c10
                try clear c10b0
                try clear c11
                try clear c11b0
                try clear c11b1
                try clear c12
                try clear c12b0
                try clear c12b1
                try clear c13
                try clear c13b0
                try clear c13b1
                try clear c13b2
                try clear c17
                try clear c17b0
                try clear p2
                try clear p6
                try clear p8
                try clear q8
                obtain ⟨kq, x45_15, rfl, HA, HJ15, HO_8, HB⟩ := hcut
                cases kq with
                | zero => exact absurd HA.out (by simp [inclinelaw21_ScriptBlank.j2])
                | succ kj15 =>
                  have H := HA.out
                  clear HA
                  simp only [inclinelaw21_ScriptBlank.j2] at H
                  by_cases c18 : x45_15 = true
                  · subst c18
                    have H1 : (if 0 ≤ x9_2 then (if x9_2 < (a0.size : Int) then (if (bt a0 x9_2) = 32 then ((some (([32, bt a0 x9_2, 32] : List Int) : List Int)).bind fun y429 => (if x8_2.length + y429.length < 140737488355328 then (inclinelaw21_ScriptBlank.l1 kj15 a0 true x6_1 (x8_2 ++ y429) (wrap64 (x9_2 + 1))) else (none))) else (if (bt a0 x9_2) = 10 then ((some (([32, bt a0 x9_2, 32] : List Int) : List Int)).bind fun y435 => (if x8_2.length + y435.length < 140737488355328 then (inclinelaw21_ScriptBlank.l1 kj15 a0 true x6_1 (x8_2 ++ y435) (wrap64 (x9_2 + 1))) else (none))) else (if x8_2.length < 140737488355328 then (inclinelaw21_ScriptBlank.l1 kj15 a0 true x6_1 (x8_2 ++ [bt a0 x9_2]) (wrap64 (x9_2 + 1))) else (none)))) else (none)) else (none)) = some r := by rw [if_pos rfl] at H; exact H
                    clear H
                    have H := H1
                    clear H1
                    by_cases c19 : 0 ≤ x9_2
                    · rw [if_pos c19] at H
                      have c19b0 : decide (0 ≤ x9_2) = true := decide_eq_true c19
                      clear c19
                      by_cases c20 : x9_2 < (a0.size : Int)
                      · rw [if_pos c20] at H
                        have c20b0 : decide (x9_2 < (a0.size : Int)) = true := decide_eq_true c20
                        clear c20
                        by_cases c22 : (bt a0 x9_2) = 32
                        · rw [if_pos c22] at H
                          have c22b0 : ((bt a0 x9_2) == 32) = true := beq_iff_eq.mpr c22
                          have c22b1 : ((bt a0 x9_2) != 32) = false := bne_eq_false_iff_eq.mpr c22
                          clear c22
                          obtain ⟨y429, hy429⟩ : ∃ y_ : List Int, y_ = (([32, bt a0 x9_2, 32] : List Int)) := ⟨_, rfl⟩
                          replace H : (if x8_2.length + y429.length < 140737488355328 then (inclinelaw21_ScriptBlank.l1 kj15 a0 true x6_1 (x8_2 ++ y429) (wrap64 (x9_2 + 1))) else (none)) = some r := by first | (rw [hy429]; with_reducible exact H) | (have H2_ := (Option.bind_some _ _).symm.trans H; rw [hy429]; with_reducible exact H2_) | (have H2_ := (Option.bind_some _ _).symm.trans H; with_reducible exact H2_) | with_reducible exact H | (rw [hy429]; exact H) | exact H
                          have Ny429 := Aside0.mk hy429
                          clear hy429
                          by_cases c24 : x8_2.length + y429.length < 140737488355328
                          · rw [if_pos c24] at H
                            have LMc24 := Aside0.mk c24
                            clear c24
                            obtain ⟨y432, hy432⟩ : ∃ y_ : List Int, y_ = (x8_2 ++ y429) := ⟨_, rfl⟩
                            replace H : (inclinelaw21_ScriptBlank.l1 kj15 a0 true x6_1 y432 (wrap64 (x9_2 + 1))) = some r := by first | (rw [hy432]; with_reducible exact H) | (have H2_ := (Option.bind_some _ _).symm.trans H; rw [hy432]; with_reducible exact H2_) | (have H2_ := (Option.bind_some _ _).symm.trans H; with_reducible exact H2_) | with_reducible exact H | (rw [hy432]; exact H) | exact H
                            have Ny432 := Aside0.mk hy432
                            clear hy432
                            have H' := Aside0.mk H
                            clear H
                            have p21 : 0 ≤ (x9_2 : Int) := of_decide_eq_true (by first | (with_reducible assumption) | assumption)
                            have q21 : x9_2 < (a0.size : Int) := of_decide_eq_true (by first | (with_reducible assumption) | assumption)
                            have hx21 := bt_at a0 x9_2
                            replace p21 := eq_true p21
                            replace q21 := eq_true q21
                            have p23 : 0 ≤ (x9_2 : Int) := of_decide_eq_true (by first | (with_reducible assumption) | assumption)
                            have q23 : x9_2 < (a0.size : Int) := of_decide_eq_true (by first | (with_reducible assumption) | assumption)
                            have hx23 := bt_at a0 x9_2
                            replace p23 := eq_true p23
                            replace q23 := eq_true q23
                            go_wp2_with (first | ((with_reducible refine gate_dst (N := 62) rfl ?_); refine Kd.R_lit (Kd.int .u8) _ 5 ?hg (N := 62) ?hd (xs := ([32, bt a0 x9_2, 32] : List Int)) (inner := [.int .u8 32, .int .u8 (bt a0 x9_2), .int .u8 32]) (ok := fun _ => True) (okp := fun _ => True) ?hr ?hp (fun _ hk => hk) trivial (Below.refl _ _) (Nat.le_refl _) (by simp) ?_; (case hd => rfl); (case hg => rfl); (case hr => first | (go_simp; done) | (go_simp; rfl)); (case hp => exact (Reps.one (show Kd.M (Kd.int .u8) _ _ _ 32 [.int .u8 32] from rfl) (Reps.one (show Kd.M (Kd.int .u8) _ _ _ (bt a0 x9_2) [.int .u8 (bt a0 x9_2)] from rfl) (Reps.one (show Kd.M (Kd.int .u8) _ _ _ 32 [.int .u8 32] from rfl) (Reps.none _ _))))); intro v430 w25 ho26 hb hg_ hnew_; clear hg_ hnew_; (first | rw [← Ny429.out] at ho26 | (simp only [Int.reduceToNat] at ho26; rw [← Ny429.out] at ho26)); have n0_ := Aside0.mk (Kd.R_elder' (by (with_reducible repeat (first | apply Kd.R_alloc | apply Kd.R_drewN | apply Kd.R_drew)); exact HO_8.out) (Kd.R_base ho26) hb); have n1_ := Aside0.mk (Kd.R_lower (Kd.R_new' ho26 (Kd.R_lt (by (with_reducible repeat (first | apply Kd.R_alloc | apply Kd.R_drewN | apply Kd.R_drew)); exact HO_8.out))) (below_size (by repeat (first | (with_reducible first | exact HB.out | apply below_alloc | apply pw_below_drewN | apply below_drew1) | exact HB.out)))); have n2_ := Aside0.mk (below_step (by repeat (first | (with_reducible first | exact HB.out | apply below_alloc | apply pw_below_drewN | apply below_drew1) | exact HB.out)) hb); clear HO_8; clear HB; have HO_8 := n0_; have HO431 := n1_; have HB := n2_; clear n0_ n1_ n2_; clear hb ho26; obtain ⟨Ao28, co28, eo28⟩ := Kd.R_slice HO431.out; subst eo28) | ((with_reducible refine gate_builtin (b := .append) (xs := #[.tmp 58, .tmp 62]) rfl ?_); at_builtin; refine Kd.R_append_rows (Kd.int .u8) (w0 := w) w.heap.size rfl (.tmp 58) (.tmp 62) 47 5 (.int .u8 0) 1 rfl Tryd.underlying47 info5 rfl (by decide) (by omega) u8 x8_2 y429 _ _ _ (fun k_ => some k_ ≠ (.slice Ao28 y429.length co28 : Value).ownBlock) (fun _ => False) rfl rfl ?aO ?aR (fun _ _ h => h) (fun _ h => h.elim) ?aF ?aB ?aS ?aL ?_; (case aR => repeat (first | exact (Kd.R_reads' HO431.out).2.2 | (with_reducible refine Kd.C_alloc ?_ _) | (with_reducible refine Kd.C_drewN ?_ _) | (with_reducible refine Kd.C_drew ?_))); (case aB => exact (by repeat (first | (with_reducible first | exact HB.out | apply below_alloc | apply pw_below_drewN | apply below_drew1) | exact HB.out))); (case aF => exact (fun k_ hk => Kd.fresh' (Kd.R_lt (by (with_reducible repeat (first | apply Kd.R_alloc | apply Kd.R_drewN | apply Kd.R_drew)); exact HO431.out)) k_ hk)); (case aO => exact (by (with_reducible repeat (first | apply Kd.R_alloc | apply Kd.R_drewN | apply Kd.R_drew)); exact Kd.R_mono HO_8.out (fun _ hk => hk.2))); (case aS => exact (below_size (by repeat (first | (with_reducible first | exact HB.out | apply below_alloc | apply pw_below_drewN | apply below_drew1) | exact HB.out)))); (case aL => have := LMc24.out; omega); intro v433 w27 ho hb hg hat; rw [← Ny432.out] at ho; have n0_ := Aside0.mk (Kd.R_after (ok := (fun _ => True)) (by (with_reducible repeat (first | apply Kd.R_alloc | apply Kd.R_drewN | apply Kd.R_drew)); exact HO431.out) hg hat); have n1_ := Aside0.mk (hb); have n2_ := Aside0.mk (ho); clear HO431; clear HB; clear HO_8; have HO431 := n0_; have HB := n1_; have HO434 := n2_; clear n0_ n1_ n2_; clear ho hb hg hat))
                            go_roundg kj15
                            case measure => have := HK1.out; have := HK2.out; have := HJ15.out; omega
                            case rel => exact ⟨(y432), (wrap64 (x9_2 + 1)), (by first | rfl | (simp; done) | (simp [*]; done)), H', ⟨by have := HK1.out; have := HK2.out; have := HJ15.out; omega⟩, ⟨by (with_reducible repeat (first | apply Kd.R_alloc | apply Kd.R_drewN | apply Kd.R_drew)); exact Kd.R_mono HO434.out (fun _ hk => trivial)⟩, ⟨by repeat (first | (with_reducible first | exact HB.out | apply below_alloc | apply pw_below_drewN | apply below_drew1) | exact HB.out)⟩⟩
                          · rw [if_neg c24] at H
                            exact absurd H (by simp)
                        · rw [if_neg c22] at H
                          have c22b0 : ((bt a0 x9_2) == 32) = false := beq_eq_false_iff_ne.mpr c22
                          have c22b1 : ((bt a0 x9_2) != 32) = true := bne_iff_ne.mpr c22
                          by_cases c30 : (bt a0 x9_2) = 10
                          · rw [if_pos c30] at H
                            have c30b0 : ((bt a0 x9_2) == 10) = true := beq_iff_eq.mpr c30
                            have c30b1 : ((bt a0 x9_2) != 10) = false := bne_eq_false_iff_eq.mpr c30
                            clear c30
                            obtain ⟨y435, hy435⟩ : ∃ y_ : List Int, y_ = (([32, bt a0 x9_2, 32] : List Int)) := ⟨_, rfl⟩
                            replace H : (if x8_2.length + y435.length < 140737488355328 then (inclinelaw21_ScriptBlank.l1 kj15 a0 true x6_1 (x8_2 ++ y435) (wrap64 (x9_2 + 1))) else (none)) = some r := by first | (rw [hy435]; with_reducible exact H) | (have H2_ := (Option.bind_some _ _).symm.trans H; rw [hy435]; with_reducible exact H2_) | (have H2_ := (Option.bind_some _ _).symm.trans H; with_reducible exact H2_) | with_reducible exact H | (rw [hy435]; exact H) | exact H
                            have Ny435 := Aside0.mk hy435
                            clear hy435
                            by_cases c32 : x8_2.length + y435.length < 140737488355328
                            · rw [if_pos c32] at H
                              have LMc32 := Aside0.mk c32
                              clear c32
                              obtain ⟨y438, hy438⟩ : ∃ y_ : List Int, y_ = (x8_2 ++ y435) := ⟨_, rfl⟩
                              replace H : (inclinelaw21_ScriptBlank.l1 kj15 a0 true x6_1 y438 (wrap64 (x9_2 + 1))) = some r := by first | (rw [hy438]; with_reducible exact H) | (have H2_ := (Option.bind_some _ _).symm.trans H; rw [hy438]; with_reducible exact H2_) | (have H2_ := (Option.bind_some _ _).symm.trans H; with_reducible exact H2_) | with_reducible exact H | (rw [hy438]; exact H) | exact H
                              have Ny438 := Aside0.mk hy438
                              clear hy438
                              have H' := Aside0.mk H
                              clear H
                              have p21 : 0 ≤ (x9_2 : Int) := of_decide_eq_true (by first | (with_reducible assumption) | assumption)
                              have q21 : x9_2 < (a0.size : Int) := of_decide_eq_true (by first | (with_reducible assumption) | assumption)
                              have hx21 := bt_at a0 x9_2
                              replace p21 := eq_true p21
                              replace q21 := eq_true q21
                              have p29 : 0 ≤ (x9_2 : Int) := of_decide_eq_true (by first | (with_reducible assumption) | assumption)
                              have q29 : x9_2 < (a0.size : Int) := of_decide_eq_true (by first | (with_reducible assumption) | assumption)
                              have hx29 := bt_at a0 x9_2
                              replace p29 := eq_true p29
                              replace q29 := eq_true q29
                              have p31 : 0 ≤ (x9_2 : Int) := of_decide_eq_true (by first | (with_reducible assumption) | assumption)
                              have q31 : x9_2 < (a0.size : Int) := of_decide_eq_true (by first | (with_reducible assumption) | assumption)
                              have hx31 := bt_at a0 x9_2
                              replace p31 := eq_true p31
                              replace q31 := eq_true q31
                              go_wp2_with (first | ((with_reducible refine gate_dst (N := 62) rfl ?_); refine Kd.R_lit (Kd.int .u8) _ 5 ?hg (N := 62) ?hd (xs := ([32, bt a0 x9_2, 32] : List Int)) (inner := [.int .u8 32, .int .u8 (bt a0 x9_2), .int .u8 32]) (ok := fun _ => True) (okp := fun _ => True) ?hr ?hp (fun _ hk => hk) trivial (Below.refl _ _) (Nat.le_refl _) (by simp) ?_; (case hd => rfl); (case hg => rfl); (case hr => first | (go_simp; done) | (go_simp; rfl)); (case hp => exact (Reps.one (show Kd.M (Kd.int .u8) _ _ _ 32 [.int .u8 32] from rfl) (Reps.one (show Kd.M (Kd.int .u8) _ _ _ (bt a0 x9_2) [.int .u8 (bt a0 x9_2)] from rfl) (Reps.one (show Kd.M (Kd.int .u8) _ _ _ 32 [.int .u8 32] from rfl) (Reps.none _ _))))); intro v436 w33 ho34 hb hg_ hnew_; clear hg_ hnew_; (first | rw [← Ny435.out] at ho34 | (simp only [Int.reduceToNat] at ho34; rw [← Ny435.out] at ho34)); have n0_ := Aside0.mk (Kd.R_elder' (by (with_reducible repeat (first | apply Kd.R_alloc | apply Kd.R_drewN | apply Kd.R_drew)); exact HO_8.out) (Kd.R_base ho34) hb); have n1_ := Aside0.mk (Kd.R_lower (Kd.R_new' ho34 (Kd.R_lt (by (with_reducible repeat (first | apply Kd.R_alloc | apply Kd.R_drewN | apply Kd.R_drew)); exact HO_8.out))) (below_size (by repeat (first | (with_reducible first | exact HB.out | apply below_alloc | apply pw_below_drewN | apply below_drew1) | exact HB.out)))); have n2_ := Aside0.mk (below_step (by repeat (first | (with_reducible first | exact HB.out | apply below_alloc | apply pw_below_drewN | apply below_drew1) | exact HB.out)) hb); clear HO_8; clear HB; have HO_8 := n0_; have HO437 := n1_; have HB := n2_; clear n0_ n1_ n2_; clear hb ho34; obtain ⟨Ao36, co36, eo36⟩ := Kd.R_slice HO437.out; subst eo36) | ((with_reducible refine gate_builtin (b := .append) (xs := #[.tmp 58, .tmp 62]) rfl ?_); at_builtin; refine Kd.R_append_rows (Kd.int .u8) (w0 := w) w.heap.size rfl (.tmp 58) (.tmp 62) 47 5 (.int .u8 0) 1 rfl Tryd.underlying47 info5 rfl (by decide) (by omega) u8 x8_2 y435 _ _ _ (fun k_ => some k_ ≠ (.slice Ao36 y435.length co36 : Value).ownBlock) (fun _ => False) rfl rfl ?aO ?aR (fun _ _ h => h) (fun _ h => h.elim) ?aF ?aB ?aS ?aL ?_; (case aR => repeat (first | exact (Kd.R_reads' HO437.out).2.2 | (with_reducible refine Kd.C_alloc ?_ _) | (with_reducible refine Kd.C_drewN ?_ _) | (with_reducible refine Kd.C_drew ?_))); (case aB => exact (by repeat (first | (with_reducible first | exact HB.out | apply below_alloc | apply pw_below_drewN | apply below_drew1) | exact HB.out))); (case aF => exact (fun k_ hk => Kd.fresh' (Kd.R_lt (by (with_reducible repeat (first | apply Kd.R_alloc | apply Kd.R_drewN | apply Kd.R_drew)); exact HO437.out)) k_ hk)); (case aO => exact (by (with_reducible repeat (first | apply Kd.R_alloc | apply Kd.R_drewN | apply Kd.R_drew)); exact Kd.R_mono HO_8.out (fun _ hk => hk.2))); (case aS => exact (below_size (by repeat (first | (with_reducible first | exact HB.out | apply below_alloc | apply pw_below_drewN | apply below_drew1) | exact HB.out)))); (case aL => have := LMc32.out; omega); intro v439 w35 ho hb hg hat; rw [← Ny438.out] at ho; have n0_ := Aside0.mk (Kd.R_after (ok := (fun _ => True)) (by (with_reducible repeat (first | apply Kd.R_alloc | apply Kd.R_drewN | apply Kd.R_drew)); exact HO437.out) hg hat); have n1_ := Aside0.mk (hb); have n2_ := Aside0.mk (ho); clear HO437; clear HB; clear HO_8; have HO437 := n0_; have HB := n1_; have HO440 := n2_; clear n0_ n1_ n2_; clear ho hb hg hat))
                              go_roundg kj15
                              case measure => have := HK1.out; have := HK2.out; have := HJ15.out; omega
                              case rel => exact ⟨(y438), (wrap64 (x9_2 + 1)), (by first | rfl | (simp; done) | (simp [*]; done)), H', ⟨by have := HK1.out; have := HK2.out; have := HJ15.out; omega⟩, ⟨by (with_reducible repeat (first | apply Kd.R_alloc | apply Kd.R_drewN | apply Kd.R_drew)); exact Kd.R_mono HO440.out (fun _ hk => trivial)⟩, ⟨by repeat (first | (with_reducible first | exact HB.out | apply below_alloc | apply pw_below_drewN | apply below_drew1) | exact HB.out)⟩⟩
                            · rw [if_neg c32] at H
                              exact absurd H (by simp)
                          · rw [if_neg c30] at H
                            have c30b0 : ((bt a0 x9_2) == 10) = false := beq_eq_false_iff_ne.mpr c30
                            have c30b1 : ((bt a0 x9_2) != 10) = true := bne_iff_ne.mpr c30
                            by_cases c38 : x8_2.length < 140737488355328
                            · rw [if_pos c38] at H
                              have LMc38 := Aside0.mk c38
                              clear c38
                              obtain ⟨y441, hy441⟩ : ∃ y_ : List Int, y_ = (x8_2 ++ [bt a0 x9_2]) := ⟨_, rfl⟩
                              replace H : (inclinelaw21_ScriptBlank.l1 kj15 a0 true x6_1 y441 (wrap64 (x9_2 + 1))) = some r := by first | (rw [hy441]; with_reducible exact H) | (have H2_ := (Option.bind_some _ _).symm.trans H; rw [hy441]; with_reducible exact H2_) | (have H2_ := (Option.bind_some _ _).symm.trans H; with_reducible exact H2_) | with_reducible exact H | (rw [hy441]; exact H) | exact H
                              have Ny441 := Aside0.mk hy441
                              clear hy441
                              have H' := Aside0.mk H
                              clear H
                              have p21 : 0 ≤ (x9_2 : Int) := of_decide_eq_true (by first | (with_reducible assumption) | assumption)
                              have q21 : x9_2 < (a0.size : Int) := of_decide_eq_true (by first | (with_reducible assumption) | assumption)
                              have hx21 := bt_at a0 x9_2
                              replace p21 := eq_true p21
                              replace q21 := eq_true q21
                              have p29 : 0 ≤ (x9_2 : Int) := of_decide_eq_true (by first | (with_reducible assumption) | assumption)
                              have q29 : x9_2 < (a0.size : Int) := of_decide_eq_true (by first | (with_reducible assumption) | assumption)
                              have hx29 := bt_at a0 x9_2
                              replace p29 := eq_true p29
                              replace q29 := eq_true q29
                              have p37 : 0 ≤ (x9_2 : Int) := of_decide_eq_true (by first | (with_reducible assumption) | assumption)
                              have q37 : x9_2 < (a0.size : Int) := of_decide_eq_true (by first | (with_reducible assumption) | assumption)
                              have hx37 := bt_at a0 x9_2
                              replace p37 := eq_true p37
                              replace q37 := eq_true q37
                              go_wp2_with (first | ((with_reducible refine gate_builtin (b := .append) (xs := #[.tmp 64, .tmp 68]) rfl ?_); at_builtin; refine Kd.R_append (Kd.int .u8) (w0 := w) w.heap.size rfl (.tmp 64) (.tmp 68) 47 5 (.int .u8 0) 1 rfl Tryd.underlying47 info5 rfl (by decide) (by omega) u8 x8_2 (bt a0 x9_2) [.int .u8 (bt a0 x9_2)] (fun _ => True) (fun _ => False) rfl rfl ?aP (fun _ hk => hk.elim) ?aF ?aO ?aB ?aS ?aL ?_; (case aP => exact rfl); (case aB => exact (by repeat (first | (with_reducible first | exact HB.out | apply below_alloc | apply pw_below_drewN | apply below_drew1) | exact HB.out))); (case aF => exact (fun _ _ => trivial)); (case aO => exact (by (with_reducible repeat (first | apply Kd.R_alloc | apply Kd.R_drewN | apply Kd.R_drew)); exact HO_8.out)); (case aS => exact (below_size (by repeat (first | (with_reducible first | exact HB.out | apply below_alloc | apply pw_below_drewN | apply below_drew1) | exact HB.out)))); (case aL => have := LMc38.out; omega); intro v442 w39 ho hb hg hat; rw [← Ny441.out] at ho; have n0_ := Aside0.mk (hb); have n1_ := Aside0.mk (ho); clear HB; clear HO_8; have HB := n0_; have HO443 := n1_; clear n0_ n1_; clear ho hb hg hat))
                              go_roundg kj15
                              case measure => have := HK1.out; have := HK2.out; have := HJ15.out; omega
                              case rel => exact ⟨(y441), (wrap64 (x9_2 + 1)), (by first | rfl | (simp; done) | (simp [*]; done)), H', ⟨by have := HK1.out; have := HK2.out; have := HJ15.out; omega⟩, ⟨by (with_reducible repeat (first | apply Kd.R_alloc | apply Kd.R_drewN | apply Kd.R_drew)); exact HO443.out⟩, ⟨by repeat (first | (with_reducible first | exact HB.out | apply below_alloc | apply pw_below_drewN | apply below_drew1) | exact HB.out)⟩⟩
                            · rw [if_neg c38] at H
                              exact absurd H (by simp)
                      · rw [if_neg c20] at H
                        exact absurd H (by simp)
                    · rw [if_neg c19] at H
                      exact absurd H (by simp)
                  · replace c18 := Bool.eq_false_iff.mpr c18
                    subst c18
                    have H1 : (if x6_1.size + 3 ≤ 9223372036854775807 then (if (x6_1 ++ (⟨#[10, 32, 10]⟩ : ByteArray)).size + (strOfNums x8_2).size ≤ 9223372036854775807 then (if ((x6_1 ++ (⟨#[10, 32, 10]⟩ : ByteArray)) ++ (strOfNums x8_2)).size + 3 ≤ 9223372036854775807 then (if (((x6_1 ++ (⟨#[10, 32, 10]⟩ : ByteArray)) ++ (strOfNums x8_2)) ++ (⟨#[32, 32, 10]⟩ : ByteArray)).size + x6_1.size ≤ 9223372036854775807 then (if (((((x6_1 ++ (⟨#[10, 32, 10]⟩ : ByteArray)) ++ (strOfNums x8_2)) ++ (⟨#[32, 32, 10]⟩ : ByteArray)) ++ x6_1).size : Int) > 65536 then (some true) else ((script_Parse.f a0).bind fun bt444 => ((script_Parse.f ((((x6_1 ++ (⟨#[10, 32, 10]⟩ : ByteArray)) ++ (strOfNums x8_2)) ++ (⟨#[32, 32, 10]⟩ : ByteArray)) ++ x6_1)).bind fun bt449 => (if true = true then (if bt444.2.2 = bt449.2.2 then ((inclinelaw21_same.f kj15 bt444.1 bt449.1).bind fun t454 => (if t454 = true then (if bt444.2.2 = 0 then (if bt449.2.1 = 0 then (some true) else (none)) else (some (bt449.2.1 == (wrap64 (bt444.2.1 + 2))))) else (none))) else (none)) else (none))))) else (none)) else (none)) else (none)) else (none)) = some r := by rw [if_neg (show ¬ (false = true) by decide)] at H; exact H
                    clear H
                    have H := H1
                    clear H1
                    by_cases c40 : x6_1.size + 3 ≤ 9223372036854775807
                    · rw [if_pos c40] at H
                      have c40b0 := eq_true c40
                      have c40b1 : decide (x6_1.size + 3 ≤ 9223372036854775807) = true := decide_eq_true c40
                      try have c40b2 : (9223372036854775807 < x6_1.size + 3) = False := eq_false (Nat.not_lt.2 c40)
                      by_cases c41 : (x6_1 ++ (⟨#[10, 32, 10]⟩ : ByteArray)).size + (strOfNums x8_2).size ≤ 9223372036854775807
                      · rw [if_pos c41] at H
                        have c41b0 := eq_true c41
                        have c41b1 : decide ((x6_1 ++ (⟨#[10, 32, 10]⟩ : ByteArray)).size + (strOfNums x8_2).size ≤ 9223372036854775807) = true := decide_eq_true c41
                        have c41x0z : (9223372036854775807 < x6_1.size + 3 + (strOfNums x8_2).size) = False := eq_false (by have h := c41; simp only [ByteArray.size_append] at h; have hl0 : (⟨#[10, 32, 10]⟩ : ByteArray).size = 3 := rfl; omega)
                        try have c41b2 : (9223372036854775807 < (x6_1 ++ (⟨#[10, 32, 10]⟩ : ByteArray)).size + (strOfNums x8_2).size) = False := eq_false (Nat.not_lt.2 c41)
                        by_cases c42 : ((x6_1 ++ (⟨#[10, 32, 10]⟩ : ByteArray)) ++ (strOfNums x8_2)).size + 3 ≤ 9223372036854775807
                        · rw [if_pos c42] at H
                          have c42b0 := eq_true c42
                          have c42b1 : decide (((x6_1 ++ (⟨#[10, 32, 10]⟩ : ByteArray)) ++ (strOfNums x8_2)).size + 3 ≤ 9223372036854775807) = true := decide_eq_true c42
                          have c42x0z : (9223372036854775807 < x6_1.size + 3 + (strOfNums x8_2).size + 3) = False := eq_false (by have h := c42; simp only [ByteArray.size_append] at h; have hl0 : (⟨#[10, 32, 10]⟩ : ByteArray).size = 3 := rfl; omega)
                          try have c42b2 : (9223372036854775807 < ((x6_1 ++ (⟨#[10, 32, 10]⟩ : ByteArray)) ++ (strOfNums x8_2)).size + 3) = False := eq_false (Nat.not_lt.2 c42)
                          by_cases c43 : (((x6_1 ++ (⟨#[10, 32, 10]⟩ : ByteArray)) ++ (strOfNums x8_2)) ++ (⟨#[32, 32, 10]⟩ : ByteArray)).size + x6_1.size ≤ 9223372036854775807
                          · rw [if_pos c43] at H
                            have c43b0 := eq_true c43
                            have c43b1 : decide ((((x6_1 ++ (⟨#[10, 32, 10]⟩ : ByteArray)) ++ (strOfNums x8_2)) ++ (⟨#[32, 32, 10]⟩ : ByteArray)).size + x6_1.size ≤ 9223372036854775807) = true := decide_eq_true c43
                            have c43x0z : (9223372036854775807 < x6_1.size + 3 + (strOfNums x8_2).size + 3 + x6_1.size) = False := eq_false (by have h := c43; simp only [ByteArray.size_append] at h; have hl0 : (⟨#[10, 32, 10]⟩ : ByteArray).size = 3 := rfl; have hl1 : (⟨#[32, 32, 10]⟩ : ByteArray).size = 3 := rfl; omega)
                            try have c43b2 : (9223372036854775807 < (((x6_1 ++ (⟨#[10, 32, 10]⟩ : ByteArray)) ++ (strOfNums x8_2)) ++ (⟨#[32, 32, 10]⟩ : ByteArray)).size + x6_1.size) = False := eq_false (Nat.not_lt.2 c43)
                            by_cases c44 : (((((x6_1 ++ (⟨#[10, 32, 10]⟩ : ByteArray)) ++ (strOfNums x8_2)) ++ (⟨#[32, 32, 10]⟩ : ByteArray)) ++ x6_1).size : Int) > 65536
                            · rw [if_pos c44] at H
                              have c44b0 : decide (65536 < (((((x6_1 ++ (⟨#[10, 32, 10]⟩ : ByteArray)) ++ (strOfNums x8_2)) ++ (⟨#[32, 32, 10]⟩ : ByteArray)) ++ x6_1).size : Int)) = true := decide_eq_true c44
                              have c44x0z : decide (65536 < (x6_1.size : Int) + 3 + ((strOfNums x8_2).size : Int) + 3 + (x6_1.size : Int)) = true := decide_eq_true (by have h := c44; simp only [ByteArray.size_append] at h; have hl0 : (⟨#[10, 32, 10]⟩ : ByteArray).size = 3 := rfl; have hl1 : (⟨#[32, 32, 10]⟩ : ByteArray).size = 3 := rfl; omega)
                              have c44b1 : decide (65536 < ((((x6_1 ++ (⟨#[10, 32, 10]⟩ : ByteArray)) ++ (strOfNums x8_2)) ++ (⟨#[32, 32, 10]⟩ : ByteArray)) ++ x6_1).size) = true := decide_eq_true (by omega)
                              clear c44
                              obtain rfl := Option.some.inj H
                              have hcv45 := own_string (P := Tryd.prog) Tryd.underlying47 Tryd.underlying5 Tryd.underlying9 (Kd.own_of_R HO_8.out)
                              go_wp2
                              go_ret
                              exact ⟨by first | rfl | (simp [errW_none, errW_some] <;> rfl) | (simp [*, errW_none, errW_some] <;> rfl), by repeat (first | (with_reducible first | exact HB.out | apply below_alloc | apply pw_below_drewN | apply below_drew1) | exact HB.out)⟩
                            · rw [if_neg c44] at H
                              have c44b0 : decide (65536 < (((((x6_1 ++ (⟨#[10, 32, 10]⟩ : ByteArray)) ++ (strOfNums x8_2)) ++ (⟨#[32, 32, 10]⟩ : ByteArray)) ++ x6_1).size : Int)) = false := decide_eq_false c44
                              have c44x0z : decide (65536 < (x6_1.size : Int) + 3 + ((strOfNums x8_2).size : Int) + 3 + (x6_1.size : Int)) = false := decide_eq_false (by have h := c44; simp only [ByteArray.size_append] at h; have hl0 : (⟨#[10, 32, 10]⟩ : ByteArray).size = 3 := rfl; have hl1 : (⟨#[32, 32, 10]⟩ : ByteArray).size = 3 := rfl; omega)
                              have c44b1 : decide (65536 < ((((x6_1 ++ (⟨#[10, 32, 10]⟩ : ByteArray)) ++ (strOfNums x8_2)) ++ (⟨#[32, 32, 10]⟩ : ByteArray)) ++ x6_1).size) = false := decide_eq_false (by omega)
                              clear c44
                              replace H := Option.bind_eq_some_iff.mp H
                              obtain ⟨⟨t444, t445, t446⟩, A460, H⟩ := H
                              replace H : ((script_Parse.f ((((x6_1 ++ (⟨#[10, 32, 10]⟩ : ByteArray)) ++ (strOfNums x8_2)) ++ (⟨#[32, 32, 10]⟩ : ByteArray)) ++ x6_1)).bind fun bt449 => (if true = true then (if t446 = bt449.2.2 then ((inclinelaw21_same.f kj15 t444 bt449.1).bind fun t454 => (if t454 = true then (if t446 = 0 then (if bt449.2.1 = 0 then (some true) else (none)) else (some (bt449.2.1 == (wrap64 (t445 + 2))))) else (none))) else (none)) else (none))) = some r := H
                              have A46 := Aside0.mk A460
                              clear A460
                              replace H := Option.bind_eq_some_iff.mp H
                              obtain ⟨⟨t449, t450, t451⟩, A470, H⟩ := H
                              replace H : (if true = true then (if t446 = t451 then ((inclinelaw21_same.f kj15 t444 t449).bind fun t454 => (if t454 = true then (if t446 = 0 then (if t450 = 0 then (some true) else (none)) else (some (t450 == (wrap64 (t445 + 2))))) else (none))) else (none)) else (none)) = some r := H
                              have A47 := Aside0.mk A470
                              clear A470
                              rw [if_pos rfl] at H
                              by_cases c48 : t446 = t451
                              · rw [if_pos c48] at H
                                have c48b0 : (t446 == t451) = true := beq_iff_eq.mpr c48
                                have c48b1 : (t446 != t451) = false := bne_eq_false_iff_eq.mpr c48
                                clear c48
                                replace H := Option.bind_eq_some_iff.mp H
                                obtain ⟨t454, A490, H⟩ := H
                                replace H : (if t454 = true then (if t446 = 0 then (if t450 = 0 then (some true) else (none)) else (some (t450 == (wrap64 (t445 + 2))))) else (none)) = some r := H
                                have A49 := Aside0.mk A490
                                clear A490
                                by_cases c50 : t454 = true
                                · subst c50
                                  have H1 : (if t446 = 0 then (if t450 = 0 then (some true) else (none)) else (some (t450 == (wrap64 (t445 + 2))))) = some r := by rw [if_pos rfl] at H; exact H
                                  clear H
                                  have H := H1
                                  clear H1
                                  by_cases c51 : t446 = 0
                                  · rw [if_pos c51] at H
                                    have c51b0 : (t446 == 0) = true := beq_iff_eq.mpr c51
                                    have c51b1 : (t446 != 0) = false := bne_eq_false_iff_eq.mpr c51
                                    clear c51
                                    by_cases c52 : t450 = 0
                                    · rw [if_pos c52] at H
                                      have c52b0 : (t450 == 0) = true := beq_iff_eq.mpr c52
                                      have c52b1 : (t450 != 0) = false := bne_eq_false_iff_eq.mpr c52
                                      clear c52
                                      obtain rfl := Option.some.inj H
                                      have hcv53 := own_string (P := Tryd.prog) Tryd.underlying47 Tryd.underlying5 Tryd.underlying9 (Kd.own_of_R HO_8.out)
                                      go_wp2_with (first | ((with_reducible refine gate_callee (f := 12) rfl ?_); refine goesL_ (some 84) rfl rfl Tryd.func12 (by kernel_rfl) rfl #[.string a0] rfl (by (try simp only [List.map_toArray, List.map_cons, List.map_nil]); first | done | rfl | (simp only [List.length_drop, List.length_take]; rfl)) ?_; (with_reducible refine (script_Parse.calls a0 t444 t445 t446 _ A46.out).mono ?_); rintro e w54 ⟨v447, rfl, ho0, hb⟩; refine ⟨_, rfl, ?_⟩; have n0_ := Aside0.mk (Kd.R_below (by (with_reducible repeat (first | apply Kd.R_alloc | apply Kd.R_drewN | apply Kd.R_drew)); exact HO_8.out) hb); have n1_ := Aside0.mk (Kd.S_lower ho0 (below_size (by repeat (first | (with_reducible first | exact HB.out | apply below_alloc | apply pw_below_drewN | apply below_drew1) | exact HB.out)))); have n2_ := Aside0.mk (below_step (by repeat (first | (with_reducible first | exact HB.out | apply below_alloc | apply pw_below_drewN | apply below_drew1) | exact HB.out)) hb); clear HO_8; clear HB; have HO_8 := n0_; have HO448 := n1_; have HB := n2_; clear n0_ n1_ n2_; (try clear hb); (try clear hb2); (try clear hk); (try clear hi); (try clear ho0)) | ((with_reducible refine gate_callee (f := 12) rfl ?_); refine goesL_ (some 90) rfl rfl Tryd.func12 (by kernel_rfl) rfl #[.string ((((x6_1 ++ (⟨#[10, 32, 10]⟩ : ByteArray)) ++ (strOfNums x8_2)) ++ (⟨#[32, 32, 10]⟩ : ByteArray)) ++ x6_1)] rfl (by (try simp only [List.map_toArray, List.map_cons, List.map_nil]); first | done | rfl | (simp only [List.length_drop, List.length_take]; rfl)) ?_; (with_reducible refine (script_Parse.calls ((((x6_1 ++ (⟨#[10, 32, 10]⟩ : ByteArray)) ++ (strOfNums x8_2)) ++ (⟨#[32, 32, 10]⟩ : ByteArray)) ++ x6_1) t449 t450 t451 _ A47.out).mono ?_); rintro e w55 ⟨v452, rfl, ho0, hb⟩; refine ⟨_, rfl, ?_⟩; have n0_ := Aside0.mk (Kd.R_below (by (with_reducible repeat (first | apply Kd.R_alloc | apply Kd.R_drewN | apply Kd.R_drew)); exact HO_8.out) hb); have n1_ := Aside0.mk (Kd.S_elder' (by (with_reducible repeat (first | apply Kd.S_alloc | apply Kd.S_drewN | apply Kd.S_drew)); exact HO448.out) (Kd.S_base ho0) hb); have n2_ := Aside0.mk (Kd.S_lower (Kd.S_new' ho0 (Kd.S_lt (by (with_reducible repeat (first | apply Kd.S_alloc | apply Kd.S_drewN | apply Kd.S_drew)); exact HO448.out))) (below_size (by repeat (first | (with_reducible first | exact HB.out | apply below_alloc | apply pw_below_drewN | apply below_drew1) | exact HB.out)))); have n3_ := Aside0.mk (below_step (by repeat (first | (with_reducible first | exact HB.out | apply below_alloc | apply pw_below_drewN | apply below_drew1) | exact HB.out)) hb); clear HO_8; clear HO448; clear HB; have HO_8 := n0_; have HO448 := n1_; have HO453 := n2_; have HB := n3_; clear n0_ n1_ n2_ n3_; (try clear hb); (try clear hb2); (try clear hk); (try clear hi); (try clear ho0); obtain ⟨Ao56, co56, eo56⟩ := Kd.S_slice HO448.out; subst eo56; obtain ⟨Ao57, co57, eo57⟩ := Kd.S_slice HO453.out; subst eo57) | (go_at_call 14; (with_reducible refine (inclinelaw21_same.calls kj15 _ _ t444 _ _ t449 true _ ?side1 ?side2 ?side3 ?side4 A49.out).mono ?_); (case side1 => repeat (first | exact (Kd.S_reads' HO448.out).2.2 | (with_reducible refine Kd.C_alloc ?_ _) | (with_reducible refine Kd.C_drewN ?_ _) | (with_reducible refine Kd.C_drew ?_))); (case side2 => exact (Kd.S_reads' HO448.out).2.1); (case side3 => repeat (first | exact (Kd.S_reads' HO453.out).2.2 | (with_reducible refine Kd.C_alloc ?_ _) | (with_reducible refine Kd.C_drewN ?_ _) | (with_reducible refine Kd.C_drew ?_))); (case side4 => exact (Kd.S_reads' HO453.out).2.1); rintro e w' ⟨rfl, ⟨nd, rfl⟩⟩))
                                      go_ret
                                      exact ⟨by first | rfl | (simp [errW_none, errW_some] <;> rfl) | (simp [*, errW_none, errW_some] <;> rfl), by repeat (first | (with_reducible first | exact HB.out | apply below_alloc | apply pw_below_drewN | apply below_drew1) | exact HB.out)⟩
                                    · rw [if_neg c52] at H
                                      exact absurd H (by simp)
                                  · rw [if_neg c51] at H
                                    have c51b0 : (t446 == 0) = false := beq_eq_false_iff_ne.mpr c51
                                    have c51b1 : (t446 != 0) = true := bne_iff_ne.mpr c51
                                    obtain rfl := Option.some.inj H
                                    have hcv58 := own_string (P := Tryd.prog) Tryd.underlying47 Tryd.underlying5 Tryd.underlying9 (Kd.own_of_R HO_8.out)
                                    go_wp2_with (first | ((with_reducible refine gate_callee (f := 12) rfl ?_); refine goesL_ (some 84) rfl rfl Tryd.func12 (by kernel_rfl) rfl #[.string a0] rfl (by (try simp only [List.map_toArray, List.map_cons, List.map_nil]); first | done | rfl | (simp only [List.length_drop, List.length_take]; rfl)) ?_; (with_reducible refine (script_Parse.calls a0 t444 t445 t446 _ A46.out).mono ?_); rintro e w59 ⟨v447, rfl, ho0, hb⟩; refine ⟨_, rfl, ?_⟩; have n0_ := Aside0.mk (Kd.R_below (by (with_reducible repeat (first | apply Kd.R_alloc | apply Kd.R_drewN | apply Kd.R_drew)); exact HO_8.out) hb); have n1_ := Aside0.mk (Kd.S_lower ho0 (below_size (by repeat (first | (with_reducible first | exact HB.out | apply below_alloc | apply pw_below_drewN | apply below_drew1) | exact HB.out)))); have n2_ := Aside0.mk (below_step (by repeat (first | (with_reducible first | exact HB.out | apply below_alloc | apply pw_below_drewN | apply below_drew1) | exact HB.out)) hb); clear HO_8; clear HB; have HO_8 := n0_; have HO448 := n1_; have HB := n2_; clear n0_ n1_ n2_; (try clear hb); (try clear hb2); (try clear hk); (try clear hi); (try clear ho0)) | ((with_reducible refine gate_callee (f := 12) rfl ?_); refine goesL_ (some 90) rfl rfl Tryd.func12 (by kernel_rfl) rfl #[.string ((((x6_1 ++ (⟨#[10, 32, 10]⟩ : ByteArray)) ++ (strOfNums x8_2)) ++ (⟨#[32, 32, 10]⟩ : ByteArray)) ++ x6_1)] rfl (by (try simp only [List.map_toArray, List.map_cons, List.map_nil]); first | done | rfl | (simp only [List.length_drop, List.length_take]; rfl)) ?_; (with_reducible refine (script_Parse.calls ((((x6_1 ++ (⟨#[10, 32, 10]⟩ : ByteArray)) ++ (strOfNums x8_2)) ++ (⟨#[32, 32, 10]⟩ : ByteArray)) ++ x6_1) t449 t450 t451 _ A47.out).mono ?_); rintro e w60 ⟨v452, rfl, ho0, hb⟩; refine ⟨_, rfl, ?_⟩; have n0_ := Aside0.mk (Kd.R_below (by (with_reducible repeat (first | apply Kd.R_alloc | apply Kd.R_drewN | apply Kd.R_drew)); exact HO_8.out) hb); have n1_ := Aside0.mk (Kd.S_elder' (by (with_reducible repeat (first | apply Kd.S_alloc | apply Kd.S_drewN | apply Kd.S_drew)); exact HO448.out) (Kd.S_base ho0) hb); have n2_ := Aside0.mk (Kd.S_lower (Kd.S_new' ho0 (Kd.S_lt (by (with_reducible repeat (first | apply Kd.S_alloc | apply Kd.S_drewN | apply Kd.S_drew)); exact HO448.out))) (below_size (by repeat (first | (with_reducible first | exact HB.out | apply below_alloc | apply pw_below_drewN | apply below_drew1) | exact HB.out)))); have n3_ := Aside0.mk (below_step (by repeat (first | (with_reducible first | exact HB.out | apply below_alloc | apply pw_below_drewN | apply below_drew1) | exact HB.out)) hb); clear HO_8; clear HO448; clear HB; have HO_8 := n0_; have HO448 := n1_; have HO453 := n2_; have HB := n3_; clear n0_ n1_ n2_ n3_; (try clear hb); (try clear hb2); (try clear hk); (try clear hi); (try clear ho0); obtain ⟨Ao61, co61, eo61⟩ := Kd.S_slice HO448.out; subst eo61; obtain ⟨Ao62, co62, eo62⟩ := Kd.S_slice HO453.out; subst eo62) | (go_at_call 14; (with_reducible refine (inclinelaw21_same.calls kj15 _ _ t444 _ _ t449 true _ ?side1 ?side2 ?side3 ?side4 A49.out).mono ?_); (case side1 => repeat (first | exact (Kd.S_reads' HO448.out).2.2 | (with_reducible refine Kd.C_alloc ?_ _) | (with_reducible refine Kd.C_drewN ?_ _) | (with_reducible refine Kd.C_drew ?_))); (case side2 => exact (Kd.S_reads' HO448.out).2.1); (case side3 => repeat (first | exact (Kd.S_reads' HO453.out).2.2 | (with_reducible refine Kd.C_alloc ?_ _) | (with_reducible refine Kd.C_drewN ?_ _) | (with_reducible refine Kd.C_drew ?_))); (case side4 => exact (Kd.S_reads' HO453.out).2.1); rintro e w' ⟨rfl, ⟨nd, rfl⟩⟩))
                                    go_ret
                                    exact ⟨by first | rfl | (simp [errW_none, errW_some] <;> rfl) | (simp [*, errW_none, errW_some] <;> rfl), by repeat (first | (with_reducible first | exact HB.out | apply below_alloc | apply pw_below_drewN | apply below_drew1) | exact HB.out)⟩
                                · replace c50 := Bool.eq_false_iff.mpr c50
                                  subst c50
                                  have H1 : (none) = some r := by rw [if_neg (show ¬ (false = true) by decide)] at H; exact H
                                  clear H
                                  have H := H1
                                  clear H1
                                  exact absurd H (by simp)
                              · rw [if_neg c48] at H
                                exact absurd H (by simp)
                          · rw [if_neg c43] at H
                            exact absurd H (by simp)
                        · rw [if_neg c42] at H
                          exact absurd H (by simp)
                      · rw [if_neg c41] at H
                        exact absurd H (by simp)
                    · rw [if_neg c40] at H
                      exact absurd H (by simp)
  · replace c4 := Bool.eq_false_iff.mpr c4
    subst c4
    have H1 : (none) = some r := by rw [if_neg (show ¬ (false = true) by decide)] at H; exact H
    clear H
    have H := H1
    clear H1
    exact absurd H (by simp)

/-- THE ONE PURE STATEMENT of inclinelaw21_ScriptBlank: yours. -/
def inclinelaw21_ScriptBlank.Pure : Prop := ∀ (a0 : ByteArray) (a1 : ByteArray), a0.size ≤ 140737488351232 → a1.size ≤ 140737488351232 → ∃ k, inclinelaw21_ScriptBlank.f k a0 a1 = some true
end Go.Proofs.YtlfoaaeelcmhiaaDoor.G
end

section
/- ScriptBlank: its plain law, its walk. -/
namespace Go.Proofs.YtlfoaaeelcmhiaaDoor
open Go.RowKit Go.Proofs.YtlfoaaeelcmhiaaDoor.Reading G
open Go.Proofs.YtlfoaaeelcmhiaaDoorW.PrintWords hiding nums
set_option linter.unusedVariables false
namespace Pure
theorem bt_bl (s : ByteArray) (i : Nat) (h : i < s.size) : ∃ b, (bl s)[i]? = some b ∧ bt s (i : Int) = (b.toNat : Int) := by
  refine ⟨s.get! i, get_bl s i h, ?_⟩
  have h0' : i < s.data.size := h
  unfold bt
  rw [dif_pos (show (i : Int).toNat < s.size from by rw [Int.toNat_natCast]; exact h)]
  simp only [Int.toNat_natCast]
  congr 2
  unfold ByteArray.get!
  exact (getElem!_pos s.data i h0').symm
theorem mk_size (l : Bytes) : (mk l).size = l.length := by rw [← bl_length, bl_mk]
theorem mk_append (l : Bytes) (s : ByteArray) : mk l ++ s = mk (l ++ bl s) := by apply bl_inj; rw [bl_append, bl_mk, bl_mk]
theorem drop_at (l : Bytes) (i : Nat) (b : UInt8) (h : l[i]? = some b) : l.drop i = b :: l.drop (i + 1) := by
  obtain ⟨hi, hb⟩ := List.getElem?_eq_some_iff.1 h
  rw [List.drop_eq_getElem_cons hi, hb]
theorem take_at (l : Bytes) (i : Nat) (b : UInt8) (h : l[i]? = some b) : l.take (i + 1) = l.take i ++ [b] := by
  obtain ⟨hi, hb⟩ := List.getElem?_eq_some_iff.1 h
  rw [List.take_succ_eq_append_getElem hi, hb]
theorem blank_l0 (t note : ByteArray) (hn : note.size ≤ 140737488351232) : ∀ (d i k : Nat) (acc : Bytes), note.size = i + d → acc.length ≤ i + 1 →
    inclinelaw21_ScriptBlank.l0 (k + d + 1) t note true (mk acc) (i : Int) = inclinelaw21_ScriptBlank.l1 k t true (mk (acc ++ ((bl note).drop i).filter (· ≠ 10))) [] 0 := by
  intro d
  induction d with
  | zero =>
    intro i k acc h1 h2
    have hd : (bl note).drop i = [] := List.drop_eq_nil_of_le (by rw [bl_length]; omega)
    rw [hd]
    simp only [inclinelaw21_ScriptBlank.l0]
    rw [if_neg (by omega)]
    simp
  | succ d ih =>
    intro i k acc h1 h2
    obtain ⟨b, hb, hbt⟩ := bt_bl note i (by omega)
    obtain ⟨m, hm⟩ : ∃ m, k + (d + 1) = m := ⟨_, rfl⟩
    rw [hm]
    simp only [inclinelaw21_ScriptBlank.l0]
    rw [if_pos (by omega), if_pos (by omega), hbt, ← hm, show k + (d + 1) = k + d + 1 from rfl, w64 (by omega) (by omega), drop_at _ i b hb]
    have e1 : (i : Int) + 1 = ((i + 1 : Nat) : Int) := rfl
    by_cases hb10 : b = 10
    · subst hb10
      rw [if_pos (by decide), e1, ih (i + 1) k acc (by omega) (by omega)]
      simp
    · have hne : ¬ ((b.toNat : Int) = 10) := fun e => hb10 (UInt8.toNat_inj.1 (show b.toNat = 10 from by omega))
      have hex : mk acc ++ note.extract (i : Int).toNat ((i : Int) + 1).toNat = mk (acc ++ [b]) := by
        rw [mk_append, bl_extract, show (i : Int).toNat = i from by omega, show ((i : Int) + 1).toNat = i + 1 from by omega, drop_at _ i b hb]
        simp
      rw [if_neg hne, if_pos (by omega), if_pos (by omega), if_pos (by rw [mk_size, ByteArray.size_extract]; omega), hex, e1, ih (i + 1) k (acc ++ [b]) (by omega) (by rw [List.length_append]; simp only [List.length_cons, List.length_nil]; omega)]
      congr 2
      rw [List.append_assoc]
      congr 1
      rw [List.filter_cons, if_pos (by simpa using hb10)]
      rfl
theorem nums_wide (b : UInt8) : (if (b.toNat : Int) = 32 then [32, (b.toNat : Int), 32] else if (b.toNat : Int) = 10 then [32, (b.toNat : Int), 32] else [(b.toNat : Int)]) = nums (wideAt b) := by
  unfold wideAt
  by_cases h32 : b = 32
  · subst h32; rfl
  · by_cases h10 : b = 10
    · subst h10; rfl
    · rw [if_neg (fun e => h32 (UInt8.toNat_inj.1 (show b.toNat = 32 from by omega))), if_neg (fun e => h10 (UInt8.toNat_inj.1 (show b.toNat = 10 from by omega))), if_neg (fun h => h.elim h32 h10)]
      rfl
theorem blank_l1 (t : ByteArray) (one : ByteArray) (N : Nat) (hN : N ≤ t.size) (hN2 : N = t.size ∨ N = 65537) (hN3 : N ≤ 65537) : ∀ (d i k : Nat), N = i + d →
    inclinelaw21_ScriptBlank.l1 (k + 2 * d + 1) t true one (nums (widen ((bl t).take i))) (i : Int) = inclinelaw21_ScriptBlank.j2 k t true one (nums (widen ((bl t).take N))) (N : Int) false := by
  intro d
  induction d with
  | zero =>
    intro i k h1
    have hi : i = N := by omega
    subst hi
    simp only [inclinelaw21_ScriptBlank.l1]
    by_cases h : (i : Int) < (t.size : Int)
    · rw [if_pos h, decide_eq_false (by omega)]
    · rw [if_neg h]
  | succ d ih =>
    intro i k h1
    obtain ⟨b, hb, hbt⟩ := bt_bl t i (by omega)
    have hlen : (nums (widen ((bl t).take i))).length ≤ 3 * i := by
      have := (widen_len ((bl t).take i)).2
      rw [nums_length]
      rw [List.length_take] at this
      omega
    obtain ⟨m, hm⟩ : ∃ m, k + 2 * d + 1 = m := ⟨_, rfl⟩
    rw [show k + 2 * (d + 1) + 1 = m + 1 + 1 from by omega]
    simp only [inclinelaw21_ScriptBlank.l1, inclinelaw21_ScriptBlank.j2]
    have e1 : (i : Int) + 1 = ((i + 1 : Nat) : Int) := rfl
    have hfin : nums (widen ((bl t).take i)) ++ nums (wideAt b) = nums (widen ((bl t).take (i + 1))) := by
      rw [take_at _ i b hb, ← nums_append]
      simp [widen]
    have hw := nums_wide b
    rw [if_pos (by omega), decide_eq_true (by omega), if_pos rfl, if_pos (by omega), if_pos (by omega), hbt, w64 (by omega) (by omega)]
    by_cases h32 : (b.toNat : Int) = 32
    · rw [if_pos h32] at hw ⊢
      rw [Option.bind_some, if_pos (by simp only [List.length_cons, List.length_nil]; omega), hw, hfin, e1, ← hm]
      exact ih (i + 1) k (by omega)
    · rw [if_neg h32] at hw ⊢
      by_cases h10 : (b.toNat : Int) = 10
      · rw [if_pos h10] at hw ⊢
        rw [Option.bind_some, if_pos (by simp only [List.length_cons, List.length_nil]; omega), hw, hfin, e1, ← hm]
        exact ih (i + 1) k (by omega)
      · rw [if_neg h10] at hw ⊢
        rw [if_pos (by omega), hw, hfin, e1, ← hm]
        exact ih (i + 1) k (by omega)
theorem ScriptBlank (t note : ByteArray) (ht : t.size ≤ 140737488351232) (hn : note.size ≤ 140737488351232) : ∃ k, inclinelaw21_ScriptBlank.f k t note = some true := by
  obtain ⟨K, hK⟩ := shown_is
  obtain ⟨one, hone⟩ : ∃ one, (bl note).filter (· ≠ 10) = one := ⟨_, rfl⟩
  have hno : ∀ x ∈ one, x ≠ 10 := fun x hx => by rw [← hone] at hx; simpa using (List.mem_filter.1 hx).2
  have hol : one.length ≤ note.size := by rw [← hone, ← bl_length]; exact List.length_filter_le _ _
  obtain ⟨N, hN, hN2, hN3⟩ : ∃ N, N ≤ t.size ∧ (N = t.size ∨ N = 65537) ∧ N ≤ 65537 := by
    by_cases h : t.size ≤ 65537
    · exact ⟨t.size, Nat.le_refl _, .inl rfl, h⟩
    · exact ⟨65537, by omega, .inr rfl, Nat.le_refl _⟩
  obtain ⟨W, hW⟩ : ∃ W, widen ((bl t).take N) = W := ⟨_, rfl⟩
  have hWl := widen_len ((bl t).take N)
  rw [hW, List.length_take, bl_length, Nat.min_eq_left hN] at hWl
  -- the long text
  have hlong : (((mk (35 :: one) ++ (⟨#[10, 32, 10]⟩ : ByteArray)) ++ strOfNums (nums W)) ++ (⟨#[32, 32, 10]⟩ : ByteArray)) ++ mk (35 :: one) = mk ((35 :: one) ++ [10, 32, 10] ++ W ++ [32, 32, 10] ++ (35 :: one)) := by
    apply bl_inj
    rw [strOf_nums]
    simp only [bl_append, bl_mk]
    simp [bl]
  have s3 : (⟨#[10, 32, 10]⟩ : ByteArray).size = 3 := rfl
  have s3' : (⟨#[32, 32, 10]⟩ : ByteArray).size = 3 := rfl
  have sw : (strOfNums (nums W)).size = W.length := by rw [strOf_nums]; exact mk_size W
  have so : (mk (35 :: one)).size = one.length + 1 := by rw [mk_size, List.length_cons]
  have start : ∀ k, K ≤ k + 2 * N + 1 + note.size + 1 → inclinelaw21_ScriptBlank.f (k + 2 * N + 1 + note.size + 1) t note = inclinelaw21_ScriptBlank.j2 k t true (mk (35 :: one)) (nums W) (N : Int) false := by
    intro k hk
    unfold inclinelaw21_ScriptBlank.f
    rw [hK _ hk, Option.bind_some, if_pos rfl]
    have h0 := blank_l0 t note hn note.size 0 (k + 2 * N + 1) [35] (by omega) (by simp)
    rw [List.drop_zero, hone] at h0
    have h1 := blank_l1 t (mk (35 :: one)) N hN hN2 hN3 N 0 k (by omega)
    rw [hW] at h1
    exact h0.trans h1
  by_cases hl : 65536 < ((35 :: one) ++ [10, 32, 10] ++ W ++ [32, 32, 10] ++ (35 :: one)).length
  · refine ⟨K + 1 + 2 * N + 1 + note.size + 1, ?_⟩
    rw [start _ (by omega)]
    simp only [inclinelaw21_ScriptBlank.j2]
    rw [if_neg (by decide), if_pos (by omega), if_pos (by rw [ByteArray.size_append]; omega), if_pos (by rw [ByteArray.size_append, ByteArray.size_append]; omega), if_pos (by rw [ByteArray.size_append, ByteArray.size_append, ByteArray.size_append]; omega), hlong, mk_size, if_pos (by omega)]
  · have hNt : N = t.size ∧ t.size ≤ 65536 := by
      simp only [List.length_append, List.length_cons, List.length_nil] at hl
      omega
    have hWt : W = widen (bl t) := by rw [← hW, hNt.1, ← bl_length, List.take_length]
    have hp := parse_long one (bl t) hno (by unfold longOf; rw [← hWt]; omega)
    unfold longOf at hp
    rw [← hWt] at hp
    have spt := parseT_spec (bl t)
    obtain ⟨⟨cs, at_, e⟩, hpt⟩ : ∃ p, parseT (bl t) = p := ⟨_, rfl⟩
    rw [hpt] at spt hp
    rw [bl_length] at spt
    have hi := parse_is t
    rw [hpt] at hi
    simp only [] at hi spt
    have hsame : ∃ K2, ∀ k, K2 ≤ k → inclinelaw21_same.f k (cs.map toS) (cs.map toS) = some true := by
      by_cases he : e = 0
      · exact same_cmds cs (spt.1 he).2.1 (spt.1 he).2.2.1
      · rw [(spt.2 he).1]; exact same_cmds [] (fun c hc => by cases hc) (by simp)
    obtain ⟨K2, hK2⟩ := hsame
    refine ⟨K + K2 + 1 + 2 * N + 1 + note.size + 1, ?_⟩
    rw [start _ (by omega)]
    simp only [inclinelaw21_ScriptBlank.j2]
    rw [if_neg (by decide), if_pos (by omega), if_pos (by rw [ByteArray.size_append]; omega), if_pos (by rw [ByteArray.size_append, ByteArray.size_append]; omega), if_pos (by rw [ByteArray.size_append, ByteArray.size_append, ByteArray.size_append]; omega), hlong, mk_size, if_neg (by omega), hi, Option.bind_some, parse_is, bl_mk, hp, Option.bind_some]
    unfold shiftR
    simp only []
    rw [if_pos trivial, if_pos trivial, hK2 _ (by omega), Option.bind_some, if_pos rfl]
    by_cases he : e = 0
    · rw [if_pos he, if_pos he]
      simp
    · obtain ⟨_, h1, h2⟩ := spt.2 he
      rw [if_neg he, if_neg he, w64 (by omega) (by omega)]
      simp
end Pure
theorem Walks.ScriptBlank {w : World} (hT : Tabs w) (a0 : ByteArray) (hs0 : a0.size ≤ reach) (a1 : ByteArray) (hs1 : a1.size ≤ reach) : Calls Tryd.prog 9 #[.string a0, .string a1] w fun e w' => e = .returned (.bool true) ∧ Below w.heap.size w w' := by
  obtain ⟨k, hk⟩ := Pure.ScriptBlank a0 a1 hs0 hs1
  exact inclinelaw21_ScriptBlank.calls k a0 a1 true w hT hk
end Go.Proofs.YtlfoaaeelcmhiaaDoor
end

section
/- The row of ScriptBlank: for every input the law answers true, and each argument reads as it did. Out of its walk (Walks.ScriptBlank). -/
namespace Go.Proofs.YtlfoaaeelcmhiaaDoor.rowScriptBlank
open Go.ChangeShapes Go.WideShapes Go.ChangeAt Go.RowKit Go.Proofs.YtlfoaaeelcmhiaaDoor.Reading
open Go.ChangeMaps (open_string shut_string)
set_option linter.unusedVariables false
theorem own : ownKnob Tryd.prog.godebug = none := by kernel_rfl
theorem laidOut : laidOutB Tryd.prog = true := by kernel_rfl
set_option maxRecDepth 100000 in
theorem contract (H : Type) (enc : TypeId × Value → H) (W : World) (base : Nat) (args : Array Value) (ds gs : List (DataW H)) (before : List MemPlace)
    (hval0 : ∀ (j : Nat) t v, Tryd.f9.params[j]? = some t → args[j]? = some v → Value.okWide Tryd.prog W .any base t v)
    (hW : DataW.Whole enc Tryd.prog Tryd.f9.params.toList Rows.scriptBlankSpec.vars false W args.toList ds gs before) (hL : laidMetH Tryd.prog Rows.scriptBlankRow.laid W)
    (hsz0 : (DataW.weightsEach Tryd.prog (Tryd.f9.params.toList ++ Rows.scriptBlankSpec.plain.varTypes Tryd.prog) (ds ++ gs)).all (· ≤ reachBytes) = true) :
    Calls Tryd.prog 9 args W fun e W' => ∃ v, e = .returned v ∧ Rows.scriptBlankSpec.post enc Tryd.prog Tryd.f9 false true false false W args v W' := by
  have hval := hval0
  have hsz := hsz0
  have hW' := hW
  obtain ⟨p, q, hA0, hV, rfl, hfz, hnd⟩ := hW
  have hA : DataW.TrodAll enc Tryd.prog W 0 (fun _ => true) true Tryd.f9.params.toList args.toList ds p := hA0
  rw [Tryd.params9] at hA hval hsz
  obtain ⟨v0, vs0, d0, ds0, p0, q0, hargs, rfl, rfl, h0, r0⟩ := trodAll_cons hA
  obtain ⟨v1, vs1, d1, ds1, p1, q1, rfl, rfl, rfl, h1, r1⟩ := trodAll_cons r0
  obtain ⟨rfl, rfl, rfl⟩ := trodAll_nil r1
  obtain rfl : args = #[v0, v1] := by cases args; simp_all
  obtain ⟨rfl, rfl⟩ := trodVars_none hV
  have hwt := weights_at hsz
  have k0 := h0
  have lt0 : ∀ x ∈ p0, x.block < W.heap.size := by obtain ⟨m, hm⟩ := k0; exact DataW.trod_lt m _ _ _ hm
  have wt0 : ∀ n ∈ DataW.weights Tryd.prog 9 d0, n ≤ reach := fun n hn => hwt n (by simp only [List.cons_append, List.nil_append, List.append_nil, DataW.weightsEach, List.mem_append]; first | exact hn | exact (.inl hn) | exact hn)
  obtain ⟨a0, rfl, rfl, rfl, w0⟩ := open_string Tryd.underlying9 (hval 0 9 v0 rfl rfl) h0
  have hs0 : a0.size ≤ reach := by have := wt0 a0.data.toList.length (by simp [DataW.weights]); have e : a0.data.toList.length = a0.size := by (rw [Array.length_toList]; rfl)
                                   omega
  have k1 := h1
  have lt1 : ∀ x ∈ p1, x.block < W.heap.size := by obtain ⟨m, hm⟩ := k1; exact DataW.trod_lt m _ _ _ hm
  have wt1 : ∀ n ∈ DataW.weights Tryd.prog 9 d1, n ≤ reach := fun n hn => hwt n (by simp only [List.cons_append, List.nil_append, List.append_nil, DataW.weightsEach, List.mem_append]; first | exact hn | exact (.inr (.inl hn)) | exact (.inr hn))
  obtain ⟨a1, rfl, rfl, rfl, w1⟩ := open_string Tryd.underlying9 (hval 1 9 v1 rfl rfl) h1
  have hs1 : a1.size ≤ reach := by have := wt1 a1.data.toList.length (by simp [DataW.weights]); have e : a1.data.toList.length = a1.size := by (rw [Array.length_toList]; rfl)
                                   omega
  clear hA0 hval0 hsz0 hsz
  refine (Walks.ScriptBlank (tabs_of hL) a0 hs0 a1 hs1).mono fun e W' ⟨he, bel⟩ => ?_
  subst he
  exact ⟨_, rfl, _, _, _, [], _, [], hW', trodAll_mk1 (shut_bool Tryd.underlying4 _), (trodAll_cons_mk (Below.trod laidOut (by kernel_rfl) (of_decide_eq_true (by kernel_rfl)) k0 bel lt0) (trodAll_cons_mk (Below.trod laidOut (by kernel_rfl) (of_decide_eq_true (by kernel_rfl)) k1 bel lt1) trodAll_mk0)), rfl, bel.frame _, fun h => by cases h⟩
set_option maxRecDepth 100000 in
theorem lifted (os : Os) (started : os.Started) (H : Type) (enc : TypeId × Value → H) (F : Stop.Interp) :
    ReturnsInHanded {} Tryd.checked os 9 .any ((OpenSpec.ofChange Rows.scriptBlankSpec).preRow enc Tryd.prog Tryd.f9 Rows.scriptBlankRow.domain false Rows.scriptBlankRow.laid) (((OpenSpec.ofChange Rows.scriptBlankSpec).at F).post enc Tryd.prog Tryd.f9 false true false false) := by
  obtain ⟨places, hx⟩ : ∃ places, DataW.whole enc Tryd.prog ((laidWorld os).forCall (fun _ _ => 0) ⟨#[], #[.string ByteArray.empty, .string ByteArray.empty], []⟩).memory Tryd.f9.params.toList Rows.scriptBlankSpec.vars false (#[.string ByteArray.empty, .string ByteArray.empty] : Array Value).toList 8 = some ([.lit (.string []), .lit (.string [])], [], places) := ⟨[], by kernel_rfl⟩
  refine returnsInHanded_of_row (C := Tryd.checked) (s := (OpenSpec.ofChange Rows.scriptBlankSpec)) own started (by kernel_rfl) Tryd.func9
    (witness_row_at (enc := enc) (C := Tryd.checked) false (laidWorld os) #[.string ByteArray.empty, .string ByteArray.empty] rfl (by kernel_rfl) (by kernel_rfl) (by kernel_rfl)
      (OpenSpec.preRow_of_cond 8 hx (by kernel_rfl) (fun k hk => by cases hk) (by kernel_rfl) (laid_met os _))) ?_
  intro W base args ds gs before hval hW _ hcond hsz hL _ _
  exact contract H enc W base args ds gs before hval hW hL hsz
theorem over : Rows.scriptBlankRow.holds Tryd.pinned (OpenSpec.ofChange Rows.scriptBlankSpec) :=
  OpenClaim.holds_of_cond 9 Tryd.f9 rfl rfl rfl rfl rfl rfl rfl ⟨rfl, rfl, rfl, rfl, rfl⟩ rfl rfl rfl rfl rfl (by kernel_rfl) Tryd.func9 (by kernel_rfl)
    (of_decide_eq_true (by kernel_rfl)) (by unfold Func.isWrapper; first | (rw [if_pos (by decide +kernel)]; kernel_rfl) | (rw [if_neg (by decide +kernel)]; exact ⟨rfl, rfl⟩))
    (fun os started H enc _ F => by rw [OpenClaim.pre_eq_preRow]; exact lifted os started H enc F)
theorem plain (f : FuncId) (fn : Func) (hf : Tryd.pinned.checked.prog.funcNamed "incline/inclinelaw21.ScriptBlank" = some f) (hfn : Tryd.pinned.checked.prog.funcs[f]? = some fn) :
    false = Tryd.pinned.checked.prog.looks [] ∧ ∀ (j : Nat) t, fn.params[j]? = some t → Tryd.pinned.checked.prog.wantsStandIn t = false := by
  obtain rfl : f = 9 := Option.some.inj ((show Tryd.prog.funcNamed "incline/inclinelaw21.ScriptBlank" = some 9 by kernel_rfl).symm.trans hf) |>.symm
  obtain rfl : fn = Tryd.f9 := (Option.some.inj (Tryd.func9.symm.trans hfn)).symm
  refine ⟨by kernel_rfl, fun j t ht => ?_⟩
  rw [Tryd.params9] at ht
  have hm : t ∈ [9, 9] := by simpa using Array.mem_of_getElem? ht
  have hall : ([9, 9].all fun u => !Tryd.prog.wantsStandIn u) = true := by kernel_rfl
  exact (show Tryd.prog.wantsStandIn t = false by simpa using List.all_eq_true.1 hall t hm)
end Go.Proofs.YtlfoaaeelcmhiaaDoor.rowScriptBlank
namespace Go.Proofs.YtlfoaaeelcmhiaaDoor
/-- The card. -/
theorem scriptBlank_holds : Rows.ScriptBlankCardSaid :=
  Claim7.holds_tied_plain_at .later [] _ _ _ _ rowScriptBlank.over (fun _ h => by cases h) (by kernel_rfl) (fun _ h => by cases h) scriptBlank_row_tie rfl ⟨rfl, rfl⟩ (by kernel_rfl) rfl rowScriptBlank.plain (by kernel_rfl)
#print axioms scriptBlank_holds
end Go.Proofs.YtlfoaaeelcmhiaaDoor
end
