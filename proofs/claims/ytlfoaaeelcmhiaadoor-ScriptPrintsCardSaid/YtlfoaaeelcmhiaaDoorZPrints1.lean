/- The last of the claim's own texts, in one file: Gx22, Gx23, Gx24, WalkPrints, RowScriptPrints. Conditions: each theorem's own. -/
import Derived.Test.YtlfoaaeelcmhiaaDoorZBase1
import Derived.Test.YtlfoaaeelcmhiaaDoorZBase2
import Derived.Test.YtlfoaaeelcmhiaaDoorZBase3
import Derived.Test.YtlfoaaeelcmhiaaDoorZBase4
import Derived.Test.YtlfoaaeelcmhiaaDoorRows
import Derived.Test.YtlfoaaeelcmhiaaDoorCards
import Derived.Test.YtlfoaaeelcmhiaaDoorTie
import Derived.WalkKit
import Derived.ProofKit
import Derived.OpenShut
import Derived.ShutString
import Derived.ChangeOld
import Derived.Below
import Derived.SizedLaws
import Derived.JoinedCond
import Derived.Deep.CondSized
section
-- Written by a program of this session (wip/gprint.py: the kit's print, with contracts proved by hand)
namespace Go.Proofs.YtlfoaaeelcmhiaaDoor.G
open Go.RowKit Go.Proofs.YtlfoaaeelcmhiaaDoorW.PrintWords Go.Proofs.YtlfoaaeelcmhiaaDoorW.PrintLast Go.Proofs.YtlfoaaeelcmhiaaDoorW.PrintMore
attribute [local go_sem] max2_int min2_int max_two min_two max_three min_three max_four min_four   -- for this text's walks alone
set_option linter.unusedVariables false
set_option linter.unusedSimpArgs false

/-! ### inclinelaw21_copied: function 15 -/
def inclinelaw21_copied.l0 : Nat → List (S30) → List (S30) → Int → Option ((List (S30)))
  | 0, _, _, _ => none
  | k + 1, x0, x3, x4 => if x4 < (x0.length : Int) then (if 0 ≤ x4 then ((some (([] : List Int) : List Int)).bind fun y332 => (if y332.length + ((rd_T30 x0 x4).f1).length < 17592186044416 then (if x3.length < 3518437208883 then (inclinelaw21_copied.l0 k x0 (x3 ++ [(⟨(rd_T30 x0 x4).f0, (y332 ++ ((rd_T30 x0 x4).f1))⟩ : S30)]) (wrap64 (x4 + 1))) else (none)) else (none))) else (none)) else (some x3)
def inclinelaw21_copied.f (k : Nat) (l0 : List (S30)) : Option ((List (S30))) := inclinelaw21_copied.l0 k l0 (([] : List (S30))) 0
theorem inclinelaw21_copied.mono_l : ∀ k, (∀ y0 y1 y2, LeO (inclinelaw21_copied.l0 k y0 y1 y2) (inclinelaw21_copied.l0 (k + 1) y0 y1 y2))
  | 0 => fun _ _ _ r h => by simp [inclinelaw21_copied.l0] at h
  | k + 1 => by
    have ih0 := inclinelaw21_copied.mono_l k
    · intro y0 y1 y2
      unfold inclinelaw21_copied.l0
      repeat' first
      | (with_reducible exact ih0 _ _ _)
      | (with_reducible exact LeO.refl _)
      | (with_reducible exact LeO.none _)
      | (with_reducible refine LeO.ite ?_ ?_)
      | (with_reducible refine LeO.bind ?_ (fun _ => ?_))
      | exact ih0 _ _ _
      | exact LeO.none _
      | refine LeO.ite ?_ ?_
      | refine LeO.bind ?_ (fun _ => ?_)
theorem inclinelaw21_copied.mono : ∀ a0 k, LeO (inclinelaw21_copied.f k a0) (inclinelaw21_copied.f (k + 1) a0) := by
  intro a0 k
  have ih0 := inclinelaw21_copied.mono_l k
  unfold inclinelaw21_copied.f
  repeat' first
      | (with_reducible exact ih0 _ _ _)
      | (with_reducible exact LeO.refl _)
      | (with_reducible exact LeO.none _)
      | (with_reducible refine LeO.ite ?_ ?_)
      | (with_reducible refine LeO.bind ?_ (fun _ => ?_))
      | exact ih0 _ _ _
      | exact LeO.none _
      | refine LeO.ite ?_ ?_
      | refine LeO.bind ?_ (fun _ => ?_)
def inclinelaw21_copied.T5 : Bool × List (List Nat × List Nat) := (true, [([], []), ([], []), ([], []), ([1, 2], [1, 2]), ([3], [3]), ([4], [4]), ([], []), ([], []), ([], []), ([7, 8], [7, 8]), ([9], [9]), ([10], [10]), ([6, 11], [6, 11]), ([5, 12], [5, 12]), ([13], [13]), ([0, 14, 12], [0, 14]), ([15, 15, 0, 1, 2, 3, 4, 5, 6, 7, 8, 9, 10, 11, 12, 13, 14, 15], [0, 15])])
def inclinelaw21_copied.B5 : List Nat := [0, 0, 0, 6, 14, 30, 0, 0, 0, 384, 896, 1920, 4032, 8190, 16382, 32767, 65535]
theorem inclinelaw21_copied.tab5 : rtab .any (opsOf Tryd.f15 5) = inclinelaw21_copied.T5 := by kernel_rfl
theorem inclinelaw21_copied.bits5 : waitsOk inclinelaw21_copied.T5.2 inclinelaw21_copied.B5 = true := by kernel_rfl
set_option maxHeartbeats 8000000 in
set_option maxRecDepth 100000 in
theorem inclinelaw21_copied.calls (k : Nat) (A0 : Option Addr) (c0 : Nat) (l0 : List (S30)) (r : List (S30)) (w : World) (hr0 : Kd.C k30 w A0 l0.length l0) (hc0 : l0.length ≤ c0) (h : inclinelaw21_copied.f k l0 = some r) :
    Calls Tryd.prog 15 #[.slice A0 l0.length c0] w fun e w' => ∃ v0_ : Value, e = .returned (v0_) ∧ Kd.S k30 30 w' w.heap.size (fun _ => True) v0_ r ∧ Below w.heap.size w w' := by
  have hu30 := Tryd.underlying30
  have HR0 := Aside0.mk hr0
  have HC0 := Aside0.mk hc0
  clear hr0 hc0
  have HB := Aside0.mk (Below.refl w.heap.size w)
  have H : (inclinelaw21_copied.l0 k l0 (([] : List (S30))) 0) = some r := h
  clear h
  obtain ⟨y328, hy328⟩ : ∃ y_ : List (S30), y_ = (([] : List (S30))) := ⟨_, rfl⟩
  replace H : (inclinelaw21_copied.l0 k l0 y328 0) = some r := by first | (rw [hy328]; with_reducible exact H) | (have H2_ := (Option.bind_some _ _).symm.trans H; rw [hy328]; with_reducible exact H2_) | (have H2_ := (Option.bind_some _ _).symm.trans H; with_reducible exact H2_) | with_reducible exact H | (rw [hy328]; exact H) | exact H
  have Ny328 := Aside0.mk hy328
  clear hy328
  have H' := Aside0.mk H
  clear H
  go_enter Tryd.func15, Tryd.ntmps15
  go_wp2_with (first | ((with_reducible refine gate_dst (N := 5) rfl ?_); refine Kd.S_lit k30 _ 30 ?hg (N := 5) ?hd (xs := ([] : List (S30))) (inner := []) (ok := fun _ => True) (okp := fun _ => True) ?hr ?hp (fun _ hk => hk) trivial (Below.refl _ _) (Nat.le_refl _) (by simp) ?_; (case hd => rfl); (case hg => rfl); (case hr => first | (go_simp; done) | (go_simp; rfl)); (case hp => exact (Reps.none _ _)); intro v329 w2 ho3 hb hg_ hnew_; clear hg_ hnew_; (first | rw [← Ny328.out] at ho3 | (simp only [Int.reduceToNat] at ho3; rw [← Ny328.out] at ho3)); have n0_ := Aside0.mk (Kd.S_lower ho3 (below_size (by repeat (first | (with_reducible first | exact HB.out | apply below_alloc | apply pw_below_drewN | apply below_drew1) | exact HB.out)))); have n1_ := Aside0.mk (below_step (by repeat (first | (with_reducible first | exact HB.out | apply below_alloc | apply pw_below_drewN | apply below_drew1) | exact HB.out)) hb); clear HB; have HO330 := n0_; have HB := n1_; clear n0_ n1_; clear hb ho3))
  go_loopg [3, 4] k (fun kq v3 v4 w' => ∃ (x3_1 : List (S30)) (x4_1 : Int), v4 = .int .i64 x4_1 ∧ Aside0 (inclinelaw21_copied.l0 kq l0 x3_1 x4_1 = some r) ∧ Aside0 (kq ≤ k) ∧ Aside0 (Kd.S k30 30 w' w.heap.size (fun _ => True) v3 x3_1) ∧ Aside0 (Below w.heap.size w w'))
  case atStart => exact ⟨(y328), (0), (by first | rfl | (simp; done) | (simp [*]; done)), H', ⟨Nat.le_refl _⟩, ⟨by (with_reducible repeat (first | apply Kd.S_alloc | apply Kd.S_drewN | apply Kd.S_drew)); exact HO330.out⟩, ⟨by repeat (first | (with_reducible first | exact HB.out | apply below_alloc | apply pw_below_drewN | apply below_drew1) | exact HB.out)⟩⟩
  case round =>
    clear H'
    try clear c1
    try clear p2
    obtain ⟨x3_1, x4_1, rfl, HA, HK1, HO_3, HB⟩ := hrel
    cases gk with
    | zero => exact absurd HA.out (by simp [inclinelaw21_copied.l0])
    | succ k1 =>
      have H := HA.out
      clear HA
      simp only [inclinelaw21_copied.l0] at H
      by_cases c4 : x4_1 < (l0.length : Int)
      · rw [if_pos c4] at H
        have c4b0 : decide (x4_1 < (l0.length : Int)) = true := decide_eq_true c4
        clear c4
        by_cases c5 : 0 ≤ x4_1
        · rw [if_pos c5] at H
          have c5b0 : decide (0 ≤ x4_1) = true := decide_eq_true c5
          clear c5
          obtain ⟨y332, hy332⟩ : ∃ y_ : List Int, y_ = (([] : List Int)) := ⟨_, rfl⟩
          replace H : (if y332.length + ((rd_T30 l0 x4_1).f1).length < 17592186044416 then (if x3_1.length < 3518437208883 then (inclinelaw21_copied.l0 k1 l0 (x3_1 ++ [(⟨(rd_T30 l0 x4_1).f0, (y332 ++ ((rd_T30 l0 x4_1).f1))⟩ : S30)]) (wrap64 (x4_1 + 1))) else (none)) else (none)) = some r := by first | (rw [hy332]; with_reducible exact H) | (have H2_ := (Option.bind_some _ _).symm.trans H; rw [hy332]; with_reducible exact H2_) | (have H2_ := (Option.bind_some _ _).symm.trans H; with_reducible exact H2_) | with_reducible exact H | (rw [hy332]; exact H) | exact H
          have Ny332 := Aside0.mk hy332
          clear hy332
          by_cases c6 : y332.length + ((rd_T30 l0 x4_1).f1).length < 17592186044416
          · rw [if_pos c6] at H
            have LMc6 := Aside0.mk c6
            clear c6
            obtain ⟨y336, hy336⟩ : ∃ y_ : List Int, y_ = (y332 ++ ((rd_T30 l0 x4_1).f1)) := ⟨_, rfl⟩
            replace H : (if x3_1.length < 3518437208883 then (inclinelaw21_copied.l0 k1 l0 (x3_1 ++ [(⟨(rd_T30 l0 x4_1).f0, y336⟩ : S30)]) (wrap64 (x4_1 + 1))) else (none)) = some r := by first | (rw [hy336]; with_reducible exact H) | (have H2_ := (Option.bind_some _ _).symm.trans H; rw [hy336]; with_reducible exact H2_) | (have H2_ := (Option.bind_some _ _).symm.trans H; with_reducible exact H2_) | with_reducible exact H | (rw [hy336]; exact H) | exact H
            have Ny336 := Aside0.mk hy336
            clear hy336
            by_cases c7 : x3_1.length < 3518437208883
            · rw [if_pos c7] at H
              have LMc7 := Aside0.mk c7
              clear c7
              obtain ⟨y339, hy339⟩ : ∃ y_ : List (S30), y_ = (x3_1 ++ [(⟨(rd_T30 l0 x4_1).f0, y336⟩ : S30)]) := ⟨_, rfl⟩
              replace H : (inclinelaw21_copied.l0 k1 l0 y339 (wrap64 (x4_1 + 1))) = some r := by first | (rw [hy339]; with_reducible exact H) | (have H2_ := (Option.bind_some _ _).symm.trans H; rw [hy339]; with_reducible exact H2_) | (have H2_ := (Option.bind_some _ _).symm.trans H; with_reducible exact H2_) | with_reducible exact H | (rw [hy339]; exact H) | exact H
              have Ny339 := Aside0.mk hy339
              clear hy339
              have H' := Aside0.mk H
              clear H
              try go_wp2
              have n0_ := Aside0.mk (Kd.S_drew HO_3.out)
              have n1_ := Aside0.mk (below_drew1 HB.out)
              clear HO_3
              clear HB
              have HO_3 := n0_
              have HB := n1_
              clear n0_ n1_
              have p331 : 0 ≤ (x4_1 : Int) := of_decide_eq_true (by first | (with_reducible assumption) | assumption)
              have q331 : x4_1 < (l0.length : Int) := of_decide_eq_true (by first | (with_reducible assumption) | assumption)
              obtain ⟨ad331, A331_1, c331_1, e331, hx331_0, hx331_1, hl331_1, hi331_1⟩ := at_T30 HR0.out x4_1 p331 q331
              have hw331_1 := hx331_1
              have hw331_0 := hx331_0
              cases e331
              replace hx331_0 := (HB.out.cell (World.block_lt_of_cell? w _ hx331_0)).trans hx331_0
              replace hx331_1 := (HB.out.cell (World.block_lt_of_cell? w _ hx331_1)).trans hx331_1
              have HR331_1 := Aside0.mk hi331_1
              have HC331_1 := Aside0.mk hl331_1
              clear hi331_1 hl331_1
              replace p331 := eq_true p331
              replace q331 := eq_true q331
              have p335 : 0 ≤ (x4_1 : Int) := of_decide_eq_true (by first | (with_reducible assumption) | assumption)
              have q335 : x4_1 < (l0.length : Int) := of_decide_eq_true (by first | (with_reducible assumption) | assumption)
              obtain ⟨ad335, A335_1, c335_1, e335, hx335_0, hx335_1, hl335_1, hi335_1⟩ := at_T30 HR0.out x4_1 p335 q335
              have hw335_1 := hx335_1
              have hw335_0 := hx335_0
              obtain rfl : ad331 = ad335 := (by injection e335)
              replace hx335_0 := (HB.out.cell (World.block_lt_of_cell? w _ hx335_0)).trans hx335_0
              replace hx335_1 := (HB.out.cell (World.block_lt_of_cell? w _ hx335_1)).trans hx335_1
              have HR335_1 := Aside0.mk hi335_1
              have HC335_1 := Aside0.mk hl335_1
              clear hi335_1 hl335_1
              replace p335 := eq_true p335
              replace q335 := eq_true q335
              have ea_ := Option.some.inj (hx331_1.symm.trans hx335_1)
              injection ea_ with ea_ en_ ec_
              subst ea_
              subst ec_
              clear en_
              refine start_ (n := 17) (S := fun w' => w'.cell? (ad331.add ((x4_1).toNat * 2)) = some (.string ((rd_T30 l0 x4_1).f0)) ∧ w'.cell? ⟨(ad331.add ((x4_1).toNat * 2)).block, (ad331.add ((x4_1).toNat * 2)).off + 1, none⟩ = some (.slice A331_1 ((rd_T30 l0 x4_1).f1).length c331_1) ∧ w'.cell? (ad331.add ((x4_1).toNat * 2)) = some (.string ((rd_T30 l0 x4_1).f0)) ∧ w'.cell? ⟨(ad331.add ((x4_1).toNat * 2)).block, (ad331.add ((x4_1).toNat * 2)).off + 1, none⟩ = some (.slice A331_1 ((rd_T30 l0 x4_1).f1).length c331_1)) (ds := []) #[false, false, false, false, false, false, false, false, false, false, false, false, false, false, false, false, false] (by kernel_rfl) rfl rfl ⟨((HB.out.cell (World.block_lt_of_cell? w _ hw331_0)).trans hw331_0), ((HB.out.cell (World.block_lt_of_cell? w _ hw331_1)).trans hw331_1), ((HB.out.cell (World.block_lt_of_cell? w _ hw335_0)).trans hw335_0), ((HB.out.cell (World.block_lt_of_cell? w _ hw335_1)).trans hw335_1)⟩ (fun hHeld => ?_); refine with_tabW inclinelaw21_copied.tab5 inclinelaw21_copied.bits5 (fun HT_ HW_ => ?_)
              generalize wr.drew = w8 at HO_3 HB HR331_1 HR335_1 hx331_0 hx331_1 hx335_0 hx335_1 hHeld ⊢
              refine pure_ (i := 0) (N := some 12) (v := ?_) (a' := ?_) #[true, false, false, false, false, false, false, false, false, false, false, false, false, false, false, false, false] rfl rfl (any_of HT_.out (by kernel_rfl)) (fun _ _ _ h => h) (Or.inl ⟨by rfl, ?_⟩) ?_ ?_
              rotate_left
              · intro w'
                go_simp
                with_reducible rfl
              rotate_left
              · simp only [Act.put, List.setIfInBounds_toArray, List.set_cons_zero, List.set_cons_succ, i64_w, i32_w]
                rfl
              refine pure_ (i := 1) (N := some 13) (v := ?_) (a' := ?_) #[true, true, false, false, false, false, false, false, false, false, false, false, false, false, false, false, false] rfl rfl (any_of HT_.out (by kernel_rfl)) (fun _ _ _ h => h) (Or.inl ⟨by rfl, ?_⟩) ?_ ?_
              rotate_left
              · intro w'
                go_simp
                with_reducible rfl
              rotate_left
              · simp only [Act.put, List.setIfInBounds_toArray, List.set_cons_zero, List.set_cons_succ, i64_w, i32_w]
                rfl
              refine pure_ (i := 2) (N := some 14) (v := ?_) (a' := ?_) #[true, true, true, false, false, false, false, false, false, false, false, false, false, false, false, false, false] rfl rfl (any_of HT_.out (by kernel_rfl)) (fun _ _ _ h => h) (Or.inl ⟨by rfl, ?_⟩) ?_ ?_
              rotate_left
              · intro w'
                go_simp
                with_reducible rfl
              rotate_left
              · simp only [Act.put, List.setIfInBounds_toArray, List.set_cons_zero, List.set_cons_succ, i64_w, i32_w]
                rfl
              refine pure_ (i := 3) (N := some 15) (v := ?_) (a' := ?_) #[true, true, true, true, false, false, false, false, false, false, false, false, false, false, false, false, false] rfl rfl (any_of HT_.out (by kernel_rfl)) (fun _ _ _ h => h) (Or.inl ⟨by rfl, ?_⟩) ?_ ?_
              rotate_left
              · intro w'
                go_simp
                with_reducible rfl
              rotate_left
              · simp only [Act.put, List.setIfInBounds_toArray, List.set_cons_zero, List.set_cons_succ, i64_w, i32_w]
                rfl
              refine pure_ (i := 4) (N := some 16) (v := ?_) (a' := ?_) #[true, true, true, true, true, false, false, false, false, false, false, false, false, false, false, false, false] rfl rfl (any_of HT_.out (by kernel_rfl)) (fun _ _ _ h => h) (Or.inl ⟨by rfl, ?_⟩) ?_ ?_
              rotate_left
              · intro w'
                go_simp
                with_reducible rfl
              rotate_left
              · simp only [Act.put, List.setIfInBounds_toArray, List.set_cons_zero, List.set_cons_succ, i64_w, i32_w]
                rfl
              refine pure_ (i := 7) (N := some 19) (v := ?_) (a' := ?_) #[true, true, true, true, true, false, false, true, false, false, false, false, false, false, false, false, false] rfl rfl (any_of HT_.out (by kernel_rfl)) (fun _ _ _ h => h) (Or.inl ⟨by rfl, ?_⟩) ?_ ?_
              rotate_left
              · intro w'
                go_simp
                with_reducible rfl
              rotate_left
              · simp only [Act.put, List.setIfInBounds_toArray, List.set_cons_zero, List.set_cons_succ, i64_w, i32_w]
                rfl
              refine pure_ (i := 8) (N := some 20) (v := ?_) (a' := ?_) #[true, true, true, true, true, false, false, true, true, false, false, false, false, false, false, false, false] rfl rfl (any_of HT_.out (by kernel_rfl)) (fun _ _ _ h => h) (Or.inl ⟨by rfl, ?_⟩) ?_ ?_
              rotate_left
              · intro w'
                go_simp
                with_reducible rfl
              rotate_left
              · simp only [Act.put, List.setIfInBounds_toArray, List.set_cons_zero, List.set_cons_succ, i64_w, i32_w]
                rfl
              refine pure_ (i := 9) (N := some 21) (v := ?_) (a' := ?_) #[true, true, true, true, true, false, false, true, true, true, false, false, false, false, false, false, false] rfl rfl (any_of HT_.out (by kernel_rfl)) (fun _ _ _ h => h) (Or.inl ⟨by rfl, ?_⟩) ?_ ?_
              rotate_left
              · intro w'
                go_simp
                with_reducible rfl
              rotate_left
              · simp only [Act.put, List.setIfInBounds_toArray, List.set_cons_zero, List.set_cons_succ, i64_w, i32_w]
                rfl
              refine pure_ (i := 10) (N := some 22) (v := ?_) (a' := ?_) #[true, true, true, true, true, false, false, true, true, true, true, false, false, false, false, false, false] rfl rfl (any_of HT_.out (by kernel_rfl)) (fun _ _ _ h => h) (Or.inl ⟨by rfl, ?_⟩) ?_ ?_
              rotate_left
              · intro w'
                go_simp
                with_reducible rfl
              rotate_left
              · simp only [Act.put, List.setIfInBounds_toArray, List.set_cons_zero, List.set_cons_succ, i64_w, i32_w]
                rfl
              refine take_ (i := 5) (N := some 17) (v := ?_) (a' := ?_) #[true, true, true, true, true, true, false, true, true, true, true, false, false, false, false, false, false] rfl rfl (take_ofW HT_.out HW_.out (by kernel_rfl)) (fun _ _ _ h => h) (Or.inl ⟨by rfl, ?_⟩) hHeld ?_ ?_
              rotate_left
              · rintro w' ⟨s0, s1, s2, s3⟩
                go_simp
                with_reducible rfl
              rotate_left
              · simp only [Act.put, List.setIfInBounds_toArray, List.set_cons_zero, List.set_cons_succ, i64_w, i32_w]
                rfl
              refine take_ (i := 11) (N := some 23) (v := ?_) (a' := ?_) #[true, true, true, true, true, true, false, true, true, true, true, true, false, false, false, false, false] rfl rfl (take_ofW HT_.out HW_.out (by kernel_rfl)) (fun _ _ _ h => h) (Or.inl ⟨by rfl, ?_⟩) hHeld ?_ ?_
              rotate_left
              · rintro w' ⟨s0, s1, s2, s3⟩
                go_simp
                with_reducible rfl
              rotate_left
              · simp only [Act.put, List.setIfInBounds_toArray, List.set_cons_zero, List.set_cons_succ, i64_w, i32_w]
                rfl
              refine one_ (i := 6) (N := some 18) #[true, true, true, true, true, true, true, true, true, true, true, true, false, false, false, false, false] rfl rfl (one_of HT_.out (by kernel_rfl)) (by decide) (fun K hK => ?_)
              refine Kd.R_lit_step (Kd.int .u64) _ 31 ?hg (N := 18) ?hd (xs := ([] : List Int)) (inner := []) (ok := fun _ => True) (okp := fun _ => True) ?hr ?hp (fun _ hk => hk) trivial (Below.refl _ _) (Nat.le_refl _) (by simp) ?_; (case hd => rfl); (case hg => rfl); (case hr => first | (go_simp; done) | (go_simp; rfl)); (case hp => exact (Reps.none _ _))
              intro v333 w9 ho10 hb hg_ hnew_
              clear hg_ hnew_
              (first | rw [← Ny332.out] at ho10 | (simp only [Int.reduceToNat] at ho10; rw [← Ny332.out] at ho10))
              have n0_ := Aside0.mk (Kd.S_elder' (by (with_reducible repeat (first | apply Kd.S_alloc | apply Kd.S_drewN | apply Kd.S_drew)); exact HO_3.out) (Kd.R_base ho10) hb)
              have n1_ := Aside0.mk (Kd.R_lower ho10 (below_size (by repeat (first | (with_reducible first | exact HB.out | apply below_alloc | apply pw_below_drewN | apply below_drew1) | exact HB.out))))
              have n2_ := Aside0.mk (below_step (by repeat (first | (with_reducible first | exact HB.out | apply below_alloc | apply pw_below_drewN | apply below_drew1) | exact HB.out)) hb)
              clear HO_3
              clear HB
              have HO_3 := n0_
              have HO334 := n1_
              have HB := n2_
              clear n0_ n1_ n2_
              clear hb ho10
              refine hK.out _ _ ⟨((HB.out.cell (World.block_lt_of_cell? w _ hw331_0)).trans hw331_0), ((HB.out.cell (World.block_lt_of_cell? w _ hw331_1)).trans hw331_1), ((HB.out.cell (World.block_lt_of_cell? w _ hw335_0)).trans hw335_0), ((HB.out.cell (World.block_lt_of_cell? w _ hw335_1)).trans hw335_1)⟩ (fun hHeld => ?_)
              clear hK K
              refine norm_ (a' := ?_) ?_ ?_
              rotate_left
              · show Act.put _ (some 18) _ = _
                simp only [Act.put, List.setIfInBounds_toArray, List.set_cons_zero, List.set_cons_succ, i64_w, i32_w]
                rfl
              refine one_ (i := 12) (N := some 24) #[true, true, true, true, true, true, true, true, true, true, true, true, true, false, false, false, false] rfl rfl (one_of HT_.out (by kernel_rfl)) (by decide) (fun K hK => ?_)
              refine Kd.R_append_rows_step (Kd.int .u64) (w0 := w) w.heap.size (by rfl) (.tmp 18) (.tmp 23) 28 31 (.int .u64 0) 8 rfl Tryd.underlying28 info31 rfl (by decide) (by omega) v333 y332 ((rd_T30 l0 x4_1).f1) _ _ _ (fun _ => True) (fun _ => False) rfl rfl ?aO ?aR (fun _ _ h => h) (fun _ h => h.elim) ?aF ?aB ?aS ?aL ?_
              (case aR => repeat (first | exact (Kd.C_below HR335_1.out HB.out) | (with_reducible refine Kd.C_alloc ?_ _) | (with_reducible refine Kd.C_drewN ?_ _) | (with_reducible refine Kd.C_drew ?_)))
              (case aB => exact (by repeat (first | (with_reducible first | exact HB.out | apply below_alloc | apply pw_below_drewN | apply below_drew1) | exact HB.out)))
              (case aF => exact (fun _ _ => trivial))
              (case aO => exact (by (with_reducible repeat (first | apply Kd.R_alloc | apply Kd.R_drewN | apply Kd.R_drew)); exact HO334.out))
              (case aS => exact (below_size (by repeat (first | (with_reducible first | exact HB.out | apply below_alloc | apply pw_below_drewN | apply below_drew1) | exact HB.out))))
              (case aL => have := LMc6.out; omega)
              intro v337 w11 ho hb hg hat
              rw [← Ny336.out] at ho
              have n0_ := Aside0.mk (Kd.S_after (ok := (fun _ => True)) (by (with_reducible repeat (first | apply Kd.S_alloc | apply Kd.S_drewN | apply Kd.S_drew)); exact HO_3.out) hg hat)
              have n1_ := Aside0.mk (hb)
              have n2_ := Aside0.mk (ho)
              clear HO_3
              clear HB
              clear HO334
              have HO_3 := n0_
              have HB := n1_
              have HO338 := n2_
              clear n0_ n1_ n2_
              clear ho hb hg hat
              obtain ⟨Ao12, co12, eo12⟩ := Kd.R_slice HO338.out
              (first | subst eo12 | (injection eo12 with f1_ f2_ f3_; have f4_ := f1_.symm; have f5_ := f3_.symm; clear f1_ f2_ f3_; subst f4_; subst f5_))
              refine hK.out _ _ ⟨((HB.out.cell (World.block_lt_of_cell? w _ hw331_0)).trans hw331_0), ((HB.out.cell (World.block_lt_of_cell? w _ hw331_1)).trans hw331_1), ((HB.out.cell (World.block_lt_of_cell? w _ hw335_0)).trans hw335_0), ((HB.out.cell (World.block_lt_of_cell? w _ hw335_1)).trans hw335_1)⟩ (fun hHeld => ?_)
              clear hK K
              refine norm_ (a' := ?_) ?_ ?_
              rotate_left
              · show Act.put _ (some 24) _ = _
                simp only [Act.put, List.setIfInBounds_toArray, List.set_cons_zero, List.set_cons_succ, i64_w, i32_w]
                rfl
              refine pure_ (i := 13) (N := some 25) (v := ?_) (a' := ?_) #[true, true, true, true, true, true, true, true, true, true, true, true, true, true, false, false, false] rfl rfl (any_of HT_.out (by kernel_rfl)) (fun _ _ _ h => h) (Or.inl ⟨by rfl, ?_⟩) ?_ ?_
              rotate_left
              · intro w'
                go_simp
                with_reducible rfl
              rotate_left
              · simp only [Act.put, List.setIfInBounds_toArray, List.set_cons_zero, List.set_cons_succ, i64_w, i32_w]
                rfl
              refine one_ (i := 14) (N := some 26) #[true, true, true, true, true, true, true, true, true, true, true, true, true, true, true, false, false] rfl rfl (one_of HT_.out (by kernel_rfl)) (by decide) (fun K hK => ?_)
              refine value_ (w1 := ?_) (v := ?_) (by rfl) rfl ?_ ?_
              rotate_left 2
              · go_simp
                constructor
                · rfl
                · rfl
              refine hK.out _ _ ⟨(World.cell?_alloc_lt _ _ _ (World.block_lt_of_cell? _ _ (((HB.out.cell (World.block_lt_of_cell? w _ hw331_0)).trans hw331_0)))).trans (((HB.out.cell (World.block_lt_of_cell? w _ hw331_0)).trans hw331_0)), (World.cell?_alloc_lt _ _ _ (World.block_lt_of_cell? _ _ (((HB.out.cell (World.block_lt_of_cell? w _ hw331_1)).trans hw331_1)))).trans (((HB.out.cell (World.block_lt_of_cell? w _ hw331_1)).trans hw331_1)), (World.cell?_alloc_lt _ _ _ (World.block_lt_of_cell? _ _ (((HB.out.cell (World.block_lt_of_cell? w _ hw335_0)).trans hw335_0)))).trans (((HB.out.cell (World.block_lt_of_cell? w _ hw335_0)).trans hw335_0)), (World.cell?_alloc_lt _ _ _ (World.block_lt_of_cell? _ _ (((HB.out.cell (World.block_lt_of_cell? w _ hw335_1)).trans hw335_1)))).trans (((HB.out.cell (World.block_lt_of_cell? w _ hw335_1)).trans hw335_1))⟩ (fun hHeld => ?_)
              clear hK K
              refine norm_ (a' := ?_) ?_ ?_
              rotate_left
              · show Act.put _ (some 26) _ = _
                simp only [Act.put, List.setIfInBounds_toArray, List.set_cons_zero, List.set_cons_succ, i64_w, i32_w]
                rfl
              refine one_ (i := 15) (N := some 27) #[true, true, true, true, true, true, true, true, true, true, true, true, true, true, true, true, false] rfl rfl (one_of HT_.out (by kernel_rfl)) (by decide) (fun K hK => ?_)
              refine Kd.S_append_step k30 (w0 := w) w.heap.size (by rfl) (.tmp 12) (.tmp 26) 23 30 (.agg #[(.string ⟨#[]⟩), (.slice none 0 0)]) 40 rfl Tryd.underlying23 info30 rfl (by decide) (by omega) u3 x3_1 (⟨(rd_T30 l0 x4_1).f0, y336⟩ : S30) [.string ((rd_T30 l0 x4_1).f0), .slice Ao12 y336.length co12] (fun _ => True) (fun k_ => some k_ = (.slice Ao12 y336.length co12 : Value).ownBlock) rfl rfl ?aP (fun k_ hk_ => ((Kd.R_mono (ok' := fun k_ => ((fun _ => True)) k_ ∧ some k_ ≠ (u3 : Value).ownBlock) (Kd.R_apart' (HO338.out) (Kd.S_typed HO_3.out) (by decide)) (fun k_ hk => ⟨trivial, hk.2⟩))).1 k_ hk_.symm) ?aF ?aO ?aB ?aS ?aL ?_
              (case aP => exact k30_mkM _ _ _ (⟨(rd_T30 l0 x4_1).f0, y336⟩ : S30) (Kd.R_mono (Kd.R_tight rfl (Kd.R_mono (ok' := fun k_ => ((fun _ => True)) k_ ∧ some k_ ≠ (u3 : Value).ownBlock) (Kd.R_apart' (HO338.out) (Kd.S_typed HO_3.out) (by decide)) (fun k_ hk => ⟨trivial, hk.2⟩))) (fun _ h_ => h_)))
              (case aB => exact (by repeat (first | (with_reducible first | exact HB.out | apply below_alloc | apply pw_below_drewN | apply below_drew1) | exact HB.out)))
              (case aF => exact (fun _ _ => trivial))
              (case aO => exact (by (with_reducible repeat (first | apply Kd.S_alloc | apply Kd.S_drewN | apply Kd.S_drew)); exact Kd.S_mono HO_3.out (fun k_ hk => ⟨trivial, fun e_ => hk.2 e_⟩)))
              (case aS => exact (below_size (by repeat (first | (with_reducible first | exact HB.out | apply below_alloc | apply pw_below_drewN | apply below_drew1) | exact HB.out))))
              (case aL => have := LMc7.out; omega)
              intro v340 w13 ho hb hg hat
              rw [← Ny339.out] at ho
              have n0_ := Aside0.mk (hb)
              have n1_ := Aside0.mk (ho)
              clear HB
              clear HO_3
              clear HO338
              have HB := n0_
              have HO341 := n1_
              clear n0_ n1_
              clear ho hb hg hat
              refine hK.out _ _ ⟨((HB.out.cell (World.block_lt_of_cell? w _ hw331_0)).trans hw331_0), ((HB.out.cell (World.block_lt_of_cell? w _ hw331_1)).trans hw331_1), ((HB.out.cell (World.block_lt_of_cell? w _ hw335_0)).trans hw335_0), ((HB.out.cell (World.block_lt_of_cell? w _ hw335_1)).trans hw335_1)⟩ (fun hHeld => ?_)
              clear hK K
              refine norm_ (a' := ?_) ?_ ?_
              rotate_left
              · show Act.put _ (some 27) _ = _
                simp only [Act.put, List.setIfInBounds_toArray, List.set_cons_zero, List.set_cons_succ, i64_w, i32_w]
                rfl
              refine pure_ (i := 16) (N := some 3) (v := ?_) (a' := ?_) #[true, true, true, true, true, true, true, true, true, true, true, true, true, true, true, true, true] rfl rfl (any_of HT_.out (by kernel_rfl)) (fun _ _ _ h => h) (Or.inl ⟨by rfl, ?_⟩) ?_ ?_
              rotate_left
              · intro w'
                go_simp
                with_reducible rfl
              rotate_left
              · simp only [Act.put, List.setIfInBounds_toArray, List.set_cons_zero, List.set_cons_succ, i64_w, i32_w]
                rfl
              refine done_ (done_of HT_.out (by kernel_rfl)) ?_
              try go_wp2
              go_roundg k1
              case measure => have := HK1.out; omega
              case rel => exact ⟨(y339), (wrap64 (x4_1 + 1)), (by first | rfl | (simp; done) | (simp [*]; done)), H', ⟨by have := HK1.out; omega⟩, ⟨by (with_reducible repeat (first | apply Kd.S_alloc | apply Kd.S_drewN | apply Kd.S_drew)); exact HO341.out⟩, ⟨by repeat (first | (with_reducible first | exact HB.out | apply below_alloc | apply pw_below_drewN | apply below_drew1) | exact HB.out)⟩⟩
            · rw [if_neg c7] at H
              exact absurd H (by simp)
          · rw [if_neg c6] at H
            exact absurd H (by simp)
        · rw [if_neg c5] at H
          exact absurd H (by simp)
      · rw [if_neg c4] at H
        have c4b0 : decide (x4_1 < (l0.length : Int)) = false := decide_eq_false c4
        clear c4
        obtain rfl := Option.some.inj H
        go_wp2
        go_ret
        exact ⟨_, by first | rfl | (simp [errW_none, errW_some] <;> rfl) | (simp [*, errW_none, errW_some] <;> rfl), by (with_reducible repeat (first | apply Kd.S_alloc | apply Kd.S_drewN | apply Kd.S_drew)); exact HO_3.out, by repeat (first | (with_reducible first | exact HB.out | apply below_alloc | apply pw_below_drewN | apply below_drew1) | exact HB.out)⟩

end Go.Proofs.YtlfoaaeelcmhiaaDoor.G
end

section
-- Written by a program of this session (wip/gprint.py: the kit's print, with contracts proved by hand)
namespace Go.Proofs.YtlfoaaeelcmhiaaDoor.G
open Go.RowKit Go.Proofs.YtlfoaaeelcmhiaaDoorW.PrintWords Go.Proofs.YtlfoaaeelcmhiaaDoorW.PrintLast Go.Proofs.YtlfoaaeelcmhiaaDoorW.PrintMore
attribute [local go_sem] max2_int min2_int max_two min_two max_three min_three max_four min_four   -- for this text's walks alone
set_option linter.unusedVariables false
set_option linter.unusedSimpArgs false

/-! ### inclineref21_Print: function 17 -/
mutual
def inclineref21_Print.l0 : Nat → List (S30) → Int → Option (ByteArray × Int)
  | 0, _, _ => none
  | k + 1, x0, x4 => if x4 < (x0.length : Int) then (if 0 ≤ x4 then ((inclineref21_Takes.f k ((rd_T30 x0 x4).f0)).bind fun t343 => (if t343 < 0 then (some ((⟨#[]⟩ : ByteArray), 211)) else ((inclineref21_Takes.f k ((rd_T30 x0 x4).f0)).bind fun t345 => (if t345 = (((rd_T30 x0 x4).f1).length : Int) then (inclineref21_Print.l0 k x0 (wrap64 (x4 + 1))) else (some ((⟨#[]⟩ : ByteArray), 213)))))) else (none)) else (inclineref21_Print.l1 k x0 (⟨#[]⟩ : ByteArray) 0)
def inclineref21_Print.l1 : Nat → List (S30) → ByteArray → Int → Option (ByteArray × Int)
  | 0, _, _, _ => none
  | k + 1, x0, x5, x6 => if x6 < (x0.length : Int) then (if 0 ≤ x6 then (if x5.size + ((rd_T30 x0 x6).f0).size ≤ 9223372036854775807 then (inclineref21_Print.l2 k x0 (x5 ++ ((rd_T30 x0 x6).f0)) x6 0) else (none)) else (none)) else (some (x5, 0))
def inclineref21_Print.l2 : Nat → List (S30) → ByteArray → Int → Int → Option (ByteArray × Int)
  | 0, _, _, _, _ => none
  | k + 1, x0, x5, x6, x7 => if 0 ≤ x6 then (if x6 < (x0.length : Int) then (if x7 < (((rd_T30 x0 x6).f1).length : Int) then (if x5.size + 1 ≤ 9223372036854775807 then (if 0 ≤ x7 then ((inclineref21_digits.f k (rd ((rd_T30 x0 x6).f1) x7)).bind fun t351 => (if (x5 ++ (⟨#[32]⟩ : ByteArray)).size + t351.size ≤ 9223372036854775807 then (inclineref21_Print.l2 k x0 ((x5 ++ (⟨#[32]⟩ : ByteArray)) ++ t351) x6 (wrap64 (x7 + 1))) else (none))) else (none)) else (none)) else (if x5.size + 1 ≤ 9223372036854775807 then (if ((x5 ++ (⟨#[10]⟩ : ByteArray)).size : Int) > 65536 then (some ((⟨#[]⟩ : ByteArray), 210)) else (inclineref21_Print.l1 k x0 (x5 ++ (⟨#[10]⟩ : ByteArray)) (wrap64 (x6 + 1)))) else (none))) else (none)) else (none)
end
def inclineref21_Print.f (k : Nat) (l0 : List (S30)) : Option (ByteArray × Int) := if (l0.length : Int) > 4096 then (some ((⟨#[]⟩ : ByteArray), 210)) else (inclineref21_Print.l0 k l0 0)
theorem inclineref21_Print.mono_l : ∀ k, (∀ y0 y1, LeO (inclineref21_Print.l0 k y0 y1) (inclineref21_Print.l0 (k + 1) y0 y1)) ∧ (∀ y0 y1 y2, LeO (inclineref21_Print.l1 k y0 y1 y2) (inclineref21_Print.l1 (k + 1) y0 y1 y2)) ∧ (∀ y0 y1 y2 y3, LeO (inclineref21_Print.l2 k y0 y1 y2 y3) (inclineref21_Print.l2 (k + 1) y0 y1 y2 y3))
  | 0 => ⟨fun _ _ r h => by simp [inclineref21_Print.l0] at h, fun _ _ _ r h => by simp [inclineref21_Print.l1] at h, fun _ _ _ _ r h => by simp [inclineref21_Print.l2] at h⟩
  | k + 1 => by
    obtain ⟨ih0, ih1, ih2⟩ := inclineref21_Print.mono_l k
    refine ⟨?_, ?_, ?_⟩
    · intro y0 y1
      unfold inclineref21_Print.l0
      repeat' first
      | (with_reducible exact ih0 _ _)
      | (with_reducible exact ih1 _ _ _)
      | (with_reducible exact ih2 _ _ _ _)
      | (with_reducible exact inclineref21_Takes.mono _ _)
      | (with_reducible exact inclineref21_digits.mono _ _)
      | (with_reducible exact LeO.refl _)
      | (with_reducible exact LeO.none _)
      | (with_reducible refine LeO.ite ?_ ?_)
      | (with_reducible refine LeO.bind ?_ (fun _ => ?_))
      | exact ih0 _ _
      | exact ih1 _ _ _
      | exact ih2 _ _ _ _
      | exact inclineref21_Takes.mono _ _
      | exact inclineref21_digits.mono _ _
      | exact LeO.none _
      | refine LeO.ite ?_ ?_
      | refine LeO.bind ?_ (fun _ => ?_)
    · intro y0 y1 y2
      unfold inclineref21_Print.l1
      repeat' first
      | (with_reducible exact ih0 _ _)
      | (with_reducible exact ih1 _ _ _)
      | (with_reducible exact ih2 _ _ _ _)
      | (with_reducible exact inclineref21_Takes.mono _ _)
      | (with_reducible exact inclineref21_digits.mono _ _)
      | (with_reducible exact LeO.refl _)
      | (with_reducible exact LeO.none _)
      | (with_reducible refine LeO.ite ?_ ?_)
      | (with_reducible refine LeO.bind ?_ (fun _ => ?_))
      | exact ih0 _ _
      | exact ih1 _ _ _
      | exact ih2 _ _ _ _
      | exact inclineref21_Takes.mono _ _
      | exact inclineref21_digits.mono _ _
      | exact LeO.none _
      | refine LeO.ite ?_ ?_
      | refine LeO.bind ?_ (fun _ => ?_)
    · intro y0 y1 y2 y3
      unfold inclineref21_Print.l2
      repeat' first
      | (with_reducible exact ih0 _ _)
      | (with_reducible exact ih1 _ _ _)
      | (with_reducible exact ih2 _ _ _ _)
      | (with_reducible exact inclineref21_Takes.mono _ _)
      | (with_reducible exact inclineref21_digits.mono _ _)
      | (with_reducible exact LeO.refl _)
      | (with_reducible exact LeO.none _)
      | (with_reducible refine LeO.ite ?_ ?_)
      | (with_reducible refine LeO.bind ?_ (fun _ => ?_))
      | exact ih0 _ _
      | exact ih1 _ _ _
      | exact ih2 _ _ _ _
      | exact inclineref21_Takes.mono _ _
      | exact inclineref21_digits.mono _ _
      | exact LeO.none _
      | refine LeO.ite ?_ ?_
      | refine LeO.bind ?_ (fun _ => ?_)
theorem inclineref21_Print.mono : ∀ a0 k, LeO (inclineref21_Print.f k a0) (inclineref21_Print.f (k + 1) a0) := by
  intro a0 k
  obtain ⟨ih0, ih1, ih2⟩ := inclineref21_Print.mono_l k
  unfold inclineref21_Print.f
  repeat' first
      | (with_reducible exact ih0 _ _)
      | (with_reducible exact ih1 _ _ _)
      | (with_reducible exact ih2 _ _ _ _)
      | (with_reducible exact inclineref21_Takes.mono _ _)
      | (with_reducible exact inclineref21_digits.mono _ _)
      | (with_reducible exact LeO.refl _)
      | (with_reducible exact LeO.none _)
      | (with_reducible refine LeO.ite ?_ ?_)
      | (with_reducible refine LeO.bind ?_ (fun _ => ?_))
      | exact ih0 _ _
      | exact ih1 _ _ _
      | exact ih2 _ _ _ _
      | exact inclineref21_Takes.mono _ _
      | exact inclineref21_digits.mono _ _
      | exact LeO.none _
      | refine LeO.ite ?_ ?_
      | refine LeO.bind ?_ (fun _ => ?_)
set_option maxHeartbeats 8000000 in
set_option maxRecDepth 1000000 in
theorem inclineref21_Print.calls (k : Nat) (A0 : Option Addr) (c0 : Nat) (l0 : List (S30)) (r1 : ByteArray) (r2 : Int) (w : World) (hr0 : Kd.C k30 w A0 l0.length l0) (hc0 : l0.length ≤ c0) (h : inclineref21_Print.f k l0 = some (r1, r2)) :
    Calls Tryd.prog 17 #[.slice A0 l0.length c0] w fun e w' => e = .returned (.tuple #[.string r1, .int .i64 r2]) ∧ Below w.heap.size w w' := by
  have HR0 := Aside0.mk hr0
  have HC0 := Aside0.mk hc0
  clear hr0 hc0
  have HB := Aside0.mk (Below.refl w.heap.size w)
  have H : (if (l0.length : Int) > 4096 then (some ((⟨#[]⟩ : ByteArray), 210)) else (inclineref21_Print.l0 k l0 0)) = some (r1, r2) := h
  clear h
  by_cases c2 : (l0.length : Int) > 4096
  · rw [if_pos c2] at H
    have c2b0 : decide (4096 < (l0.length : Int)) = true := decide_eq_true c2
    have c2b1 : decide (4096 < l0.length) = true := decide_eq_true (by omega)
    clear c2
    simp only [Option.some.injEq, Prod.mk.injEq] at H
    obtain ⟨rfl, rfl⟩ := H
    go_enter Tryd.func17, Tryd.ntmps17
    go_wp2
    repeat (go_quiet (fail); try go_wp2)
    go_ret2
    exact ⟨by first | rfl | (simp [errW_none, errW_some] <;> rfl) | (simp [*, errW_none, errW_some] <;> rfl), by repeat (first | (with_reducible first | exact HB.out | apply below_alloc | apply pw_below_drewN | apply below_drew1) | exact HB.out)⟩
  · rw [if_neg c2] at H
    have c2b0 : decide (4096 < (l0.length : Int)) = false := decide_eq_false c2
    have c2b1 : decide (4096 < l0.length) = false := decide_eq_false (by omega)
    clear c2
    have H' := Aside0.mk H
    clear H
    go_enter Tryd.func17, Tryd.ntmps17
    go_wp2
    repeat (go_quiet (fail); try go_wp2)
    go_loopg [4] k (fun kq v4 w' => ∃ (x4_1 : Int), v4 = .int .i64 x4_1 ∧ Aside0 (inclineref21_Print.l0 kq l0 x4_1 = some (r1, r2)) ∧ Aside0 (kq ≤ k) ∧ Aside0 (Below w.heap.size w w'))
    case atStart => exact ⟨(0), (by first | rfl | (simp; done) | (simp [*]; done)), H', ⟨Nat.le_refl _⟩, ⟨by repeat (first | (with_reducible first | exact HB.out | apply below_alloc | apply pw_below_drewN | apply below_drew1) | exact HB.out)⟩⟩
    case round =>
      clear H'
      try clear c1
      try clear c2
      try clear c2b0
      try clear c2b1
      try clear p2
      obtain ⟨x4_1, rfl, HA, HK1, HB⟩ := hrel
      cases gk with
      | zero => exact absurd HA.out (by simp [inclineref21_Print.l0])
      | succ k1 =>
        have H := HA.out
        clear HA
        simp only [inclineref21_Print.l0] at H
        by_cases c3 : x4_1 < (l0.length : Int)
        · rw [if_pos c3] at H
          have c3b0 : decide (x4_1 < (l0.length : Int)) = true := decide_eq_true c3
          clear c3
          by_cases c4 : 0 ≤ x4_1
          · rw [if_pos c4] at H
            have c4b0 : decide (0 ≤ x4_1) = true := decide_eq_true c4
            clear c4
            replace H := Option.bind_eq_some_iff.mp H
            obtain ⟨t343, A50, H⟩ := H
            replace H : (if t343 < 0 then (some ((⟨#[]⟩ : ByteArray), 211)) else ((inclineref21_Takes.f k1 ((rd_T30 l0 x4_1).f0)).bind fun t345 => (if t345 = (((rd_T30 l0 x4_1).f1).length : Int) then (inclineref21_Print.l0 k1 l0 (wrap64 (x4_1 + 1))) else (some ((⟨#[]⟩ : ByteArray), 213))))) = some (r1, r2) := H
            have A5 := Aside0.mk A50
            clear A50
            by_cases c6 : t343 < 0
            · rw [if_pos c6] at H
              have c6b0 : decide (t343 < 0) = true := decide_eq_true c6
              clear c6
              simp only [Option.some.injEq, Prod.mk.injEq] at H
              obtain ⟨rfl, rfl⟩ := H
              have p342 : 0 ≤ (x4_1 : Int) := of_decide_eq_true (by first | (with_reducible assumption) | assumption)
              have q342 : x4_1 < (l0.length : Int) := of_decide_eq_true (by first | (with_reducible assumption) | assumption)
              obtain ⟨ad342, A342_1, c342_1, e342, hx342_0, hx342_1, hl342_1, hi342_1⟩ := at_T30 HR0.out x4_1 p342 q342
              cases e342
              replace hx342_0 := (HB.out.cell (World.block_lt_of_cell? w _ hx342_0)).trans hx342_0
              replace hx342_1 := (HB.out.cell (World.block_lt_of_cell? w _ hx342_1)).trans hx342_1
              have HR342_1 := Aside0.mk hi342_1
              have HC342_1 := Aside0.mk hl342_1
              clear hi342_1 hl342_1
              replace p342 := eq_true p342
              replace q342 := eq_true q342
              go_wp2_with (first | (go_at_call 29; (with_reducible refine (inclineref21_Takes.calls k1 ((rd_T30 l0 x4_1).f0) t343 _ A5.out).mono ?_); rintro e w' ⟨rfl, ⟨nd, rfl⟩⟩; (try first | exact ⟨rfl, _, World.drewN_drewN _ _ _⟩ | exact ⟨rfl, _, Eq.trans (World.drewN_drewN _ _ _) (congrArg (World.drewN _) (Nat.add_assoc _ _ _))⟩)))
              repeat (go_quiet (first | (go_at_call 29; (with_reducible refine (inclineref21_Takes.calls k1 ((rd_T30 l0 x4_1).f0) t343 _ A5.out).mono ?_); rintro e w' ⟨rfl, ⟨nd, rfl⟩⟩; (try first | exact ⟨rfl, _, World.drewN_drewN _ _ _⟩ | exact ⟨rfl, _, Eq.trans (World.drewN_drewN _ _ _) (congrArg (World.drewN _) (Nat.add_assoc _ _ _))⟩))); try go_wp2_with (first | (go_at_call 29; (with_reducible refine (inclineref21_Takes.calls k1 ((rd_T30 l0 x4_1).f0) t343 _ A5.out).mono ?_); rintro e w' ⟨rfl, ⟨nd, rfl⟩⟩; (try first | exact ⟨rfl, _, World.drewN_drewN _ _ _⟩ | exact ⟨rfl, _, Eq.trans (World.drewN_drewN _ _ _) (congrArg (World.drewN _) (Nat.add_assoc _ _ _))⟩))))
              go_ret2
              exact ⟨by first | rfl | (simp [errW_none, errW_some] <;> rfl) | (simp [*, errW_none, errW_some] <;> rfl), by repeat (first | (with_reducible first | exact HB.out | apply below_alloc | apply pw_below_drewN | apply below_drew1) | exact HB.out)⟩
            · rw [if_neg c6] at H
              have c6b0 : decide (t343 < 0) = false := decide_eq_false c6
              clear c6
              replace H := Option.bind_eq_some_iff.mp H
              obtain ⟨t345, A70, H⟩ := H
              replace H : (if t345 = (((rd_T30 l0 x4_1).f1).length : Int) then (inclineref21_Print.l0 k1 l0 (wrap64 (x4_1 + 1))) else (some ((⟨#[]⟩ : ByteArray), 213))) = some (r1, r2) := H
              have A7 := Aside0.mk A70
              clear A70
              obtain rfl : t343 = t345 := Option.some.inj (A5.out.symm.trans A7.out)
              by_cases c8 : t343 = (((rd_T30 l0 x4_1).f1).length : Int)
              · rw [if_pos c8] at H
                have c8b0 : (t343 == (((rd_T30 l0 x4_1).f1).length : Int)) = true := beq_iff_eq.mpr c8
                have c8b1 : (t343 != (((rd_T30 l0 x4_1).f1).length : Int)) = false := bne_eq_false_iff_eq.mpr c8
                clear c8
                have H' := Aside0.mk H
                clear H
                have p342 : 0 ≤ (x4_1 : Int) := of_decide_eq_true (by first | (with_reducible assumption) | assumption)
                have q342 : x4_1 < (l0.length : Int) := of_decide_eq_true (by first | (with_reducible assumption) | assumption)
                obtain ⟨ad342, A342_1, c342_1, e342, hx342_0, hx342_1, hl342_1, hi342_1⟩ := at_T30 HR0.out x4_1 p342 q342
                cases e342
                replace hx342_0 := (HB.out.cell (World.block_lt_of_cell? w _ hx342_0)).trans hx342_0
                replace hx342_1 := (HB.out.cell (World.block_lt_of_cell? w _ hx342_1)).trans hx342_1
                have HR342_1 := Aside0.mk hi342_1
                have HC342_1 := Aside0.mk hl342_1
                clear hi342_1 hl342_1
                replace p342 := eq_true p342
                replace q342 := eq_true q342
                go_wp2_with (first | (go_at_call 29; (with_reducible refine (inclineref21_Takes.calls k1 ((rd_T30 l0 x4_1).f0) t343 _ A5.out).mono ?_); rintro e w' ⟨rfl, ⟨nd, rfl⟩⟩; (try first | exact ⟨rfl, _, World.drewN_drewN _ _ _⟩ | exact ⟨rfl, _, Eq.trans (World.drewN_drewN _ _ _) (congrArg (World.drewN _) (Nat.add_assoc _ _ _))⟩); have p344 : 0 ≤ (x4_1 : Int) := of_decide_eq_true (by first | (with_reducible assumption) | assumption); have q344 : x4_1 < (l0.length : Int) := of_decide_eq_true (by first | (with_reducible assumption) | assumption); obtain ⟨ad344, A344_1, c344_1, e344, hx344_0, hx344_1, hl344_1, hi344_1⟩ := at_T30 HR0.out x4_1 p344 q344; obtain rfl : ad342 = ad344 := (by injection e344); replace hx344_0 := (HB.out.cell (World.block_lt_of_cell? w _ hx344_0)).trans hx344_0; replace hx344_1 := (HB.out.cell (World.block_lt_of_cell? w _ hx344_1)).trans hx344_1; have HR344_1 := Aside0.mk hi344_1; have HC344_1 := Aside0.mk hl344_1; clear hi344_1 hl344_1; replace p344 := eq_true p344; replace q344 := eq_true q344; have ea_ := Option.some.inj (hx342_1.symm.trans hx344_1); injection ea_ with ea_ en_ ec_; subst ea_; subst ec_; clear en_) | (go_at_call 29; (with_reducible refine (inclineref21_Takes.calls k1 ((rd_T30 l0 x4_1).f0) t343 _ A7.out).mono ?_); rintro e w' ⟨rfl, ⟨nd, rfl⟩⟩; (try first | exact ⟨rfl, _, World.drewN_drewN _ _ _⟩ | exact ⟨rfl, _, Eq.trans (World.drewN_drewN _ _ _) (congrArg (World.drewN _) (Nat.add_assoc _ _ _))⟩); have p346 : 0 ≤ (x4_1 : Int) := of_decide_eq_true (by first | (with_reducible assumption) | assumption); have q346 : x4_1 < (l0.length : Int) := of_decide_eq_true (by first | (with_reducible assumption) | assumption); obtain ⟨ad346, A346_1, c346_1, e346, hx346_0, hx346_1, hl346_1, hi346_1⟩ := at_T30 HR0.out x4_1 p346 q346; obtain rfl : ad342 = ad346 := (by injection e346); replace hx346_0 := (HB.out.cell (World.block_lt_of_cell? w _ hx346_0)).trans hx346_0; replace hx346_1 := (HB.out.cell (World.block_lt_of_cell? w _ hx346_1)).trans hx346_1; have HR346_1 := Aside0.mk hi346_1; have HC346_1 := Aside0.mk hl346_1; clear hi346_1 hl346_1; replace p346 := eq_true p346; replace q346 := eq_true q346; have ea_ := Option.some.inj (hx342_1.symm.trans hx346_1); injection ea_ with ea_ en_ ec_; subst ea_; subst ec_; clear en_))
                repeat (go_quiet (first | (go_at_call 29; (with_reducible refine (inclineref21_Takes.calls k1 ((rd_T30 l0 x4_1).f0) t343 _ A5.out).mono ?_); rintro e w' ⟨rfl, ⟨nd, rfl⟩⟩; (try first | exact ⟨rfl, _, World.drewN_drewN _ _ _⟩ | exact ⟨rfl, _, Eq.trans (World.drewN_drewN _ _ _) (congrArg (World.drewN _) (Nat.add_assoc _ _ _))⟩); have p344 : 0 ≤ (x4_1 : Int) := of_decide_eq_true (by first | (with_reducible assumption) | assumption); have q344 : x4_1 < (l0.length : Int) := of_decide_eq_true (by first | (with_reducible assumption) | assumption); obtain ⟨ad344, A344_1, c344_1, e344, hx344_0, hx344_1, hl344_1, hi344_1⟩ := at_T30 HR0.out x4_1 p344 q344; obtain rfl : ad342 = ad344 := (by injection e344); replace hx344_0 := (HB.out.cell (World.block_lt_of_cell? w _ hx344_0)).trans hx344_0; replace hx344_1 := (HB.out.cell (World.block_lt_of_cell? w _ hx344_1)).trans hx344_1; have HR344_1 := Aside0.mk hi344_1; have HC344_1 := Aside0.mk hl344_1; clear hi344_1 hl344_1; replace p344 := eq_true p344; replace q344 := eq_true q344; have ea_ := Option.some.inj (hx342_1.symm.trans hx344_1); injection ea_ with ea_ en_ ec_; subst ea_; subst ec_; clear en_) | (go_at_call 29; (with_reducible refine (inclineref21_Takes.calls k1 ((rd_T30 l0 x4_1).f0) t343 _ A7.out).mono ?_); rintro e w' ⟨rfl, ⟨nd, rfl⟩⟩; (try first | exact ⟨rfl, _, World.drewN_drewN _ _ _⟩ | exact ⟨rfl, _, Eq.trans (World.drewN_drewN _ _ _) (congrArg (World.drewN _) (Nat.add_assoc _ _ _))⟩); have p346 : 0 ≤ (x4_1 : Int) := of_decide_eq_true (by first | (with_reducible assumption) | assumption); have q346 : x4_1 < (l0.length : Int) := of_decide_eq_true (by first | (with_reducible assumption) | assumption); obtain ⟨ad346, A346_1, c346_1, e346, hx346_0, hx346_1, hl346_1, hi346_1⟩ := at_T30 HR0.out x4_1 p346 q346; obtain rfl : ad342 = ad346 := (by injection e346); replace hx346_0 := (HB.out.cell (World.block_lt_of_cell? w _ hx346_0)).trans hx346_0; replace hx346_1 := (HB.out.cell (World.block_lt_of_cell? w _ hx346_1)).trans hx346_1; have HR346_1 := Aside0.mk hi346_1; have HC346_1 := Aside0.mk hl346_1; clear hi346_1 hl346_1; replace p346 := eq_true p346; replace q346 := eq_true q346; have ea_ := Option.some.inj (hx342_1.symm.trans hx346_1); injection ea_ with ea_ en_ ec_; subst ea_; subst ec_; clear en_)); try go_wp2_with (first | (go_at_call 29; (with_reducible refine (inclineref21_Takes.calls k1 ((rd_T30 l0 x4_1).f0) t343 _ A5.out).mono ?_); rintro e w' ⟨rfl, ⟨nd, rfl⟩⟩; (try first | exact ⟨rfl, _, World.drewN_drewN _ _ _⟩ | exact ⟨rfl, _, Eq.trans (World.drewN_drewN _ _ _) (congrArg (World.drewN _) (Nat.add_assoc _ _ _))⟩); have p344 : 0 ≤ (x4_1 : Int) := of_decide_eq_true (by first | (with_reducible assumption) | assumption); have q344 : x4_1 < (l0.length : Int) := of_decide_eq_true (by first | (with_reducible assumption) | assumption); obtain ⟨ad344, A344_1, c344_1, e344, hx344_0, hx344_1, hl344_1, hi344_1⟩ := at_T30 HR0.out x4_1 p344 q344; obtain rfl : ad342 = ad344 := (by injection e344); replace hx344_0 := (HB.out.cell (World.block_lt_of_cell? w _ hx344_0)).trans hx344_0; replace hx344_1 := (HB.out.cell (World.block_lt_of_cell? w _ hx344_1)).trans hx344_1; have HR344_1 := Aside0.mk hi344_1; have HC344_1 := Aside0.mk hl344_1; clear hi344_1 hl344_1; replace p344 := eq_true p344; replace q344 := eq_true q344; have ea_ := Option.some.inj (hx342_1.symm.trans hx344_1); injection ea_ with ea_ en_ ec_; subst ea_; subst ec_; clear en_) | (go_at_call 29; (with_reducible refine (inclineref21_Takes.calls k1 ((rd_T30 l0 x4_1).f0) t343 _ A7.out).mono ?_); rintro e w' ⟨rfl, ⟨nd, rfl⟩⟩; (try first | exact ⟨rfl, _, World.drewN_drewN _ _ _⟩ | exact ⟨rfl, _, Eq.trans (World.drewN_drewN _ _ _) (congrArg (World.drewN _) (Nat.add_assoc _ _ _))⟩); have p346 : 0 ≤ (x4_1 : Int) := of_decide_eq_true (by first | (with_reducible assumption) | assumption); have q346 : x4_1 < (l0.length : Int) := of_decide_eq_true (by first | (with_reducible assumption) | assumption); obtain ⟨ad346, A346_1, c346_1, e346, hx346_0, hx346_1, hl346_1, hi346_1⟩ := at_T30 HR0.out x4_1 p346 q346; obtain rfl : ad342 = ad346 := (by injection e346); replace hx346_0 := (HB.out.cell (World.block_lt_of_cell? w _ hx346_0)).trans hx346_0; replace hx346_1 := (HB.out.cell (World.block_lt_of_cell? w _ hx346_1)).trans hx346_1; have HR346_1 := Aside0.mk hi346_1; have HC346_1 := Aside0.mk hl346_1; clear hi346_1 hl346_1; replace p346 := eq_true p346; replace q346 := eq_true q346; have ea_ := Option.some.inj (hx342_1.symm.trans hx346_1); injection ea_ with ea_ en_ ec_; subst ea_; subst ec_; clear en_)))
                go_roundg k1
                case measure => have := HK1.out; omega
                case rel => exact ⟨(wrap64 (x4_1 + 1)), (by first | rfl | (simp; done) | (simp [*]; done)), H', ⟨by have := HK1.out; omega⟩, ⟨by repeat (first | (with_reducible first | exact HB.out | apply below_alloc | apply pw_below_drewN | apply below_drew1) | exact HB.out)⟩⟩
              · rw [if_neg c8] at H
                have c8b0 : (t343 == (((rd_T30 l0 x4_1).f1).length : Int)) = false := beq_eq_false_iff_ne.mpr c8
                have c8b1 : (t343 != (((rd_T30 l0 x4_1).f1).length : Int)) = true := bne_iff_ne.mpr c8
                simp only [Option.some.injEq, Prod.mk.injEq] at H
                obtain ⟨rfl, rfl⟩ := H
                have p342 : 0 ≤ (x4_1 : Int) := of_decide_eq_true (by first | (with_reducible assumption) | assumption)
                have q342 : x4_1 < (l0.length : Int) := of_decide_eq_true (by first | (with_reducible assumption) | assumption)
                obtain ⟨ad342, A342_1, c342_1, e342, hx342_0, hx342_1, hl342_1, hi342_1⟩ := at_T30 HR0.out x4_1 p342 q342
                cases e342
                replace hx342_0 := (HB.out.cell (World.block_lt_of_cell? w _ hx342_0)).trans hx342_0
                replace hx342_1 := (HB.out.cell (World.block_lt_of_cell? w _ hx342_1)).trans hx342_1
                have HR342_1 := Aside0.mk hi342_1
                have HC342_1 := Aside0.mk hl342_1
                clear hi342_1 hl342_1
                replace p342 := eq_true p342
                replace q342 := eq_true q342
                go_wp2_with (first | (go_at_call 29; (with_reducible refine (inclineref21_Takes.calls k1 ((rd_T30 l0 x4_1).f0) t343 _ A5.out).mono ?_); rintro e w' ⟨rfl, ⟨nd, rfl⟩⟩; (try first | exact ⟨rfl, _, World.drewN_drewN _ _ _⟩ | exact ⟨rfl, _, Eq.trans (World.drewN_drewN _ _ _) (congrArg (World.drewN _) (Nat.add_assoc _ _ _))⟩); have p344 : 0 ≤ (x4_1 : Int) := of_decide_eq_true (by first | (with_reducible assumption) | assumption); have q344 : x4_1 < (l0.length : Int) := of_decide_eq_true (by first | (with_reducible assumption) | assumption); obtain ⟨ad344, A344_1, c344_1, e344, hx344_0, hx344_1, hl344_1, hi344_1⟩ := at_T30 HR0.out x4_1 p344 q344; obtain rfl : ad342 = ad344 := (by injection e344); replace hx344_0 := (HB.out.cell (World.block_lt_of_cell? w _ hx344_0)).trans hx344_0; replace hx344_1 := (HB.out.cell (World.block_lt_of_cell? w _ hx344_1)).trans hx344_1; have HR344_1 := Aside0.mk hi344_1; have HC344_1 := Aside0.mk hl344_1; clear hi344_1 hl344_1; replace p344 := eq_true p344; replace q344 := eq_true q344; have ea_ := Option.some.inj (hx342_1.symm.trans hx344_1); injection ea_ with ea_ en_ ec_; subst ea_; subst ec_; clear en_) | (go_at_call 29; (with_reducible refine (inclineref21_Takes.calls k1 ((rd_T30 l0 x4_1).f0) t343 _ A7.out).mono ?_); rintro e w' ⟨rfl, ⟨nd, rfl⟩⟩; (try first | exact ⟨rfl, _, World.drewN_drewN _ _ _⟩ | exact ⟨rfl, _, Eq.trans (World.drewN_drewN _ _ _) (congrArg (World.drewN _) (Nat.add_assoc _ _ _))⟩); have p346 : 0 ≤ (x4_1 : Int) := of_decide_eq_true (by first | (with_reducible assumption) | assumption); have q346 : x4_1 < (l0.length : Int) := of_decide_eq_true (by first | (with_reducible assumption) | assumption); obtain ⟨ad346, A346_1, c346_1, e346, hx346_0, hx346_1, hl346_1, hi346_1⟩ := at_T30 HR0.out x4_1 p346 q346; obtain rfl : ad342 = ad346 := (by injection e346); replace hx346_0 := (HB.out.cell (World.block_lt_of_cell? w _ hx346_0)).trans hx346_0; replace hx346_1 := (HB.out.cell (World.block_lt_of_cell? w _ hx346_1)).trans hx346_1; have HR346_1 := Aside0.mk hi346_1; have HC346_1 := Aside0.mk hl346_1; clear hi346_1 hl346_1; replace p346 := eq_true p346; replace q346 := eq_true q346; have ea_ := Option.some.inj (hx342_1.symm.trans hx346_1); injection ea_ with ea_ en_ ec_; subst ea_; subst ec_; clear en_))
                repeat (go_quiet (first | (go_at_call 29; (with_reducible refine (inclineref21_Takes.calls k1 ((rd_T30 l0 x4_1).f0) t343 _ A5.out).mono ?_); rintro e w' ⟨rfl, ⟨nd, rfl⟩⟩; (try first | exact ⟨rfl, _, World.drewN_drewN _ _ _⟩ | exact ⟨rfl, _, Eq.trans (World.drewN_drewN _ _ _) (congrArg (World.drewN _) (Nat.add_assoc _ _ _))⟩); have p344 : 0 ≤ (x4_1 : Int) := of_decide_eq_true (by first | (with_reducible assumption) | assumption); have q344 : x4_1 < (l0.length : Int) := of_decide_eq_true (by first | (with_reducible assumption) | assumption); obtain ⟨ad344, A344_1, c344_1, e344, hx344_0, hx344_1, hl344_1, hi344_1⟩ := at_T30 HR0.out x4_1 p344 q344; obtain rfl : ad342 = ad344 := (by injection e344); replace hx344_0 := (HB.out.cell (World.block_lt_of_cell? w _ hx344_0)).trans hx344_0; replace hx344_1 := (HB.out.cell (World.block_lt_of_cell? w _ hx344_1)).trans hx344_1; have HR344_1 := Aside0.mk hi344_1; have HC344_1 := Aside0.mk hl344_1; clear hi344_1 hl344_1; replace p344 := eq_true p344; replace q344 := eq_true q344; have ea_ := Option.some.inj (hx342_1.symm.trans hx344_1); injection ea_ with ea_ en_ ec_; subst ea_; subst ec_; clear en_) | (go_at_call 29; (with_reducible refine (inclineref21_Takes.calls k1 ((rd_T30 l0 x4_1).f0) t343 _ A7.out).mono ?_); rintro e w' ⟨rfl, ⟨nd, rfl⟩⟩; (try first | exact ⟨rfl, _, World.drewN_drewN _ _ _⟩ | exact ⟨rfl, _, Eq.trans (World.drewN_drewN _ _ _) (congrArg (World.drewN _) (Nat.add_assoc _ _ _))⟩); have p346 : 0 ≤ (x4_1 : Int) := of_decide_eq_true (by first | (with_reducible assumption) | assumption); have q346 : x4_1 < (l0.length : Int) := of_decide_eq_true (by first | (with_reducible assumption) | assumption); obtain ⟨ad346, A346_1, c346_1, e346, hx346_0, hx346_1, hl346_1, hi346_1⟩ := at_T30 HR0.out x4_1 p346 q346; obtain rfl : ad342 = ad346 := (by injection e346); replace hx346_0 := (HB.out.cell (World.block_lt_of_cell? w _ hx346_0)).trans hx346_0; replace hx346_1 := (HB.out.cell (World.block_lt_of_cell? w _ hx346_1)).trans hx346_1; have HR346_1 := Aside0.mk hi346_1; have HC346_1 := Aside0.mk hl346_1; clear hi346_1 hl346_1; replace p346 := eq_true p346; replace q346 := eq_true q346; have ea_ := Option.some.inj (hx342_1.symm.trans hx346_1); injection ea_ with ea_ en_ ec_; subst ea_; subst ec_; clear en_)); try go_wp2_with (first | (go_at_call 29; (with_reducible refine (inclineref21_Takes.calls k1 ((rd_T30 l0 x4_1).f0) t343 _ A5.out).mono ?_); rintro e w' ⟨rfl, ⟨nd, rfl⟩⟩; (try first | exact ⟨rfl, _, World.drewN_drewN _ _ _⟩ | exact ⟨rfl, _, Eq.trans (World.drewN_drewN _ _ _) (congrArg (World.drewN _) (Nat.add_assoc _ _ _))⟩); have p344 : 0 ≤ (x4_1 : Int) := of_decide_eq_true (by first | (with_reducible assumption) | assumption); have q344 : x4_1 < (l0.length : Int) := of_decide_eq_true (by first | (with_reducible assumption) | assumption); obtain ⟨ad344, A344_1, c344_1, e344, hx344_0, hx344_1, hl344_1, hi344_1⟩ := at_T30 HR0.out x4_1 p344 q344; obtain rfl : ad342 = ad344 := (by injection e344); replace hx344_0 := (HB.out.cell (World.block_lt_of_cell? w _ hx344_0)).trans hx344_0; replace hx344_1 := (HB.out.cell (World.block_lt_of_cell? w _ hx344_1)).trans hx344_1; have HR344_1 := Aside0.mk hi344_1; have HC344_1 := Aside0.mk hl344_1; clear hi344_1 hl344_1; replace p344 := eq_true p344; replace q344 := eq_true q344; have ea_ := Option.some.inj (hx342_1.symm.trans hx344_1); injection ea_ with ea_ en_ ec_; subst ea_; subst ec_; clear en_) | (go_at_call 29; (with_reducible refine (inclineref21_Takes.calls k1 ((rd_T30 l0 x4_1).f0) t343 _ A7.out).mono ?_); rintro e w' ⟨rfl, ⟨nd, rfl⟩⟩; (try first | exact ⟨rfl, _, World.drewN_drewN _ _ _⟩ | exact ⟨rfl, _, Eq.trans (World.drewN_drewN _ _ _) (congrArg (World.drewN _) (Nat.add_assoc _ _ _))⟩); have p346 : 0 ≤ (x4_1 : Int) := of_decide_eq_true (by first | (with_reducible assumption) | assumption); have q346 : x4_1 < (l0.length : Int) := of_decide_eq_true (by first | (with_reducible assumption) | assumption); obtain ⟨ad346, A346_1, c346_1, e346, hx346_0, hx346_1, hl346_1, hi346_1⟩ := at_T30 HR0.out x4_1 p346 q346; obtain rfl : ad342 = ad346 := (by injection e346); replace hx346_0 := (HB.out.cell (World.block_lt_of_cell? w _ hx346_0)).trans hx346_0; replace hx346_1 := (HB.out.cell (World.block_lt_of_cell? w _ hx346_1)).trans hx346_1; have HR346_1 := Aside0.mk hi346_1; have HC346_1 := Aside0.mk hl346_1; clear hi346_1 hl346_1; replace p346 := eq_true p346; replace q346 := eq_true q346; have ea_ := Option.some.inj (hx342_1.symm.trans hx346_1); injection ea_ with ea_ en_ ec_; subst ea_; subst ec_; clear en_)))
                go_ret2
                exact ⟨by first | rfl | (simp [errW_none, errW_some] <;> rfl) | (simp [*, errW_none, errW_some] <;> rfl), by repeat (first | (with_reducible first | exact HB.out | apply below_alloc | apply pw_below_drewN | apply below_drew1) | exact HB.out)⟩
          · rw [if_neg c4] at H
            exact absurd H (by simp)
        · rw [if_neg c3] at H
          have c3b0 : decide (x4_1 < (l0.length : Int)) = false := decide_eq_false c3
          clear c3
          have H' := Aside0.mk H
          clear H
          go_wp2
          repeat (go_quiet (fail); try go_wp2)
          go_loopg [5, 6] k1 (fun kq v5 v6 w' => ∃ (x5_2 : ByteArray) (x6_2 : Int), v5 = .string x5_2 ∧ v6 = .int .i64 x6_2 ∧ Aside0 (inclineref21_Print.l1 kq l0 x5_2 x6_2 = some (r1, r2)) ∧ Aside0 (kq ≤ k1) ∧ Aside0 (Below w.heap.size w w'))
          case atStart => exact ⟨((⟨#[]⟩ : ByteArray)), (0), (by first | rfl | (simp; done) | (simp [*]; done)), (by first | rfl | (simp; done) | (simp [*]; done)), H', ⟨Nat.le_refl _⟩, ⟨by repeat (first | (with_reducible first | exact HB.out | apply below_alloc | apply pw_below_drewN | apply below_drew1) | exact HB.out)⟩⟩
          case round =>
            clear H'
            try clear c1
            try clear c2
            try clear c2b0
            try clear c2b1
            try clear p2
            try clear c3
            try clear c3b0
            try clear p3
            try clear q3
            try clear hx3
            try clear c4
            try clear c4b0
            try clear c6
            try clear c6b0
            try clear p6
            try clear c8
            try clear c8b0
            try clear c8b1
            try clear hx342_0
            try clear hx342_1
            try clear hx344_0
            try clear hx344_1
            try clear hx346_0
            try clear hx346_1
            try clear p2
            try clear p342
            try clear p344
            try clear p346
            try clear q342
            try clear q344
            try clear q346
            obtain ⟨x5_2, x6_2, rfl, rfl, HA, HK2, HB⟩ := hrel
            cases gk with
            | zero => exact absurd HA.out (by simp [inclineref21_Print.l1])
            | succ k2 =>
              have H := HA.out
              clear HA
              simp only [inclineref21_Print.l1] at H
              by_cases c9 : x6_2 < (l0.length : Int)
              · rw [if_pos c9] at H
                have c9b0 : decide (x6_2 < (l0.length : Int)) = true := decide_eq_true c9
                clear c9
                by_cases c10 : 0 ≤ x6_2
                · rw [if_pos c10] at H
                  have c10b0 : decide (0 ≤ x6_2) = true := decide_eq_true c10
                  clear c10
                  by_cases c11 : x5_2.size + ((rd_T30 l0 x6_2).f0).size ≤ 9223372036854775807
                  · rw [if_pos c11] at H
                    have c11b0 := eq_true c11
                    have c11b1 : decide (x5_2.size + ((rd_T30 l0 x6_2).f0).size ≤ 9223372036854775807) = true := decide_eq_true c11
                    try have c11b2 : (9223372036854775807 < x5_2.size + ((rd_T30 l0 x6_2).f0).size) = False := eq_false (Nat.not_lt.2 c11)
                    have H' := Aside0.mk H
                    clear H
                    have p347 : 0 ≤ (x6_2 : Int) := of_decide_eq_true (by first | (with_reducible assumption) | assumption)
                    have q347 : x6_2 < (l0.length : Int) := of_decide_eq_true (by first | (with_reducible assumption) | assumption)
                    obtain ⟨ad347, A347_1, c347_1, e347, hx347_0, hx347_1, hl347_1, hi347_1⟩ := at_T30 HR0.out x6_2 p347 q347
                    cases e347
                    replace hx347_0 := (HB.out.cell (World.block_lt_of_cell? w _ hx347_0)).trans hx347_0
                    replace hx347_1 := (HB.out.cell (World.block_lt_of_cell? w _ hx347_1)).trans hx347_1
                    have HR347_1 := Aside0.mk hi347_1
                    have HC347_1 := Aside0.mk hl347_1
                    clear hi347_1 hl347_1
                    replace p347 := eq_true p347
                    replace q347 := eq_true q347
                    go_wp2
                    repeat (go_quiet (fail); try go_wp2)
                    go_loopg [5, 7] k2 (fun kq v5 v7 w' => ∃ (x5_3 : ByteArray) (x7_3 : Int), v5 = .string x5_3 ∧ v7 = .int .i64 x7_3 ∧ Aside0 (inclineref21_Print.l2 kq l0 x5_3 x6_2 x7_3 = some (r1, r2)) ∧ Aside0 (kq ≤ k2) ∧ Aside0 (Below w.heap.size w w'))
                    case atStart => exact ⟨(x5_2 ++ ((rd_T30 l0 x6_2).f0)), (0), (by first | rfl | (simp; done) | (simp [*]; done)), (by first | rfl | (simp; done) | (simp [*]; done)), H', ⟨Nat.le_refl _⟩, ⟨by repeat (first | (with_reducible first | exact HB.out | apply below_alloc | apply pw_below_drewN | apply below_drew1) | exact HB.out)⟩⟩
                    case round =>
                      clear H'
                      try clear c1
                      try clear c2
                      try clear c2b0
                      try clear c2b1
                      try clear p2
                      try clear c3
                      try clear c3b0
                      try clear p3
                      try clear q3
                      try clear hx3
                      try clear c4
                      try clear c4b0
                      try clear c6
                      try clear c6b0
                      try clear p6
                      try clear c8
                      try clear c8b0
                      try clear c8b1
                      try clear c9
                      try clear c9b0
                      try clear c10
                      try clear c10b0
                      try clear c11
                      try clear c11b0
                      try clear c11b1
                      try clear c11b2
                      try clear hx342_0
                      try clear hx342_1
                      try clear hx344_0
                      try clear hx344_1
                      try clear hx346_0
                      try clear hx346_1
                      try clear hx347_0
                      try clear hx347_1
                      try clear p2
                      try clear p3
                      try clear p342
                      try clear p344
                      try clear p346
                      try clear p347
                      try clear p6
                      try clear q3
                      try clear q342
                      try clear q344
                      try clear q346
                      try clear q347
                      obtain ⟨x5_3, x7_3, rfl, rfl, HA, HK3, HB⟩ := hrel
                      cases gk with
                      | zero => exact absurd HA.out (by simp [inclineref21_Print.l2])
                      | succ k3 =>
                        have H := HA.out
                        clear HA
                        simp only [inclineref21_Print.l2] at H
                        by_cases c12 : 0 ≤ x6_2
                        · rw [if_pos c12] at H
                          have c12b0 : decide (0 ≤ x6_2) = true := decide_eq_true c12
                          clear c12
                          by_cases c13 : x6_2 < (l0.length : Int)
                          · rw [if_pos c13] at H
                            have c13b0 : decide (x6_2 < (l0.length : Int)) = true := decide_eq_true c13
                            clear c13
                            by_cases c14 : x7_3 < (((rd_T30 l0 x6_2).f1).length : Int)
                            · rw [if_pos c14] at H
                              have c14b0 : decide (x7_3 < (((rd_T30 l0 x6_2).f1).length : Int)) = true := decide_eq_true c14
                              clear c14
                              by_cases c15 : x5_3.size + 1 ≤ 9223372036854775807
                              · rw [if_pos c15] at H
                                have c15b0 := eq_true c15
                                have c15b1 : decide (x5_3.size + 1 ≤ 9223372036854775807) = true := decide_eq_true c15
                                try have c15b2 : (9223372036854775807 < x5_3.size + 1) = False := eq_false (Nat.not_lt.2 c15)
                                by_cases c16 : 0 ≤ x7_3
                                · rw [if_pos c16] at H
                                  have c16b0 : decide (0 ≤ x7_3) = true := decide_eq_true c16
                                  clear c16
                                  replace H := Option.bind_eq_some_iff.mp H
                                  obtain ⟨t351, A170, H⟩ := H
                                  replace H : (if (x5_3 ++ (⟨#[32]⟩ : ByteArray)).size + t351.size ≤ 9223372036854775807 then (inclineref21_Print.l2 k3 l0 ((x5_3 ++ (⟨#[32]⟩ : ByteArray)) ++ t351) x6_2 (wrap64 (x7_3 + 1))) else (none)) = some (r1, r2) := H
                                  have A17 := Aside0.mk A170
                                  clear A170
                                  by_cases c18 : (x5_3 ++ (⟨#[32]⟩ : ByteArray)).size + t351.size ≤ 9223372036854775807
                                  · rw [if_pos c18] at H
                                    have c18b0 := eq_true c18
                                    have c18b1 : decide ((x5_3 ++ (⟨#[32]⟩ : ByteArray)).size + t351.size ≤ 9223372036854775807) = true := decide_eq_true c18
                                    have c18x0z : (9223372036854775807 < x5_3.size + 1 + t351.size) = False := eq_false (by have h := c18; simp only [ByteArray.size_append] at h; have hl0 : (⟨#[32]⟩ : ByteArray).size = 1 := rfl; omega)
                                    try have c18b2 : (9223372036854775807 < (x5_3 ++ (⟨#[32]⟩ : ByteArray)).size + t351.size) = False := eq_false (Nat.not_lt.2 c18)
                                    have H' := Aside0.mk H
                                    clear H
                                    have p348 : 0 ≤ (x6_2 : Int) := of_decide_eq_true (by first | (with_reducible assumption) | assumption)
                                    have q348 : x6_2 < (l0.length : Int) := of_decide_eq_true (by first | (with_reducible assumption) | assumption)
                                    obtain ⟨ad348, A348_1, c348_1, e348, hx348_0, hx348_1, hl348_1, hi348_1⟩ := at_T30 HR0.out x6_2 p348 q348
                                    obtain rfl : ad347 = ad348 := (by injection e348)
                                    replace hx348_0 := (HB.out.cell (World.block_lt_of_cell? w _ hx348_0)).trans hx348_0
                                    replace hx348_1 := (HB.out.cell (World.block_lt_of_cell? w _ hx348_1)).trans hx348_1
                                    have HR348_1 := Aside0.mk hi348_1
                                    have HC348_1 := Aside0.mk hl348_1
                                    clear hi348_1 hl348_1
                                    replace p348 := eq_true p348
                                    replace q348 := eq_true q348
                                    have p349 : 0 ≤ (x6_2 : Int) := of_decide_eq_true (by first | (with_reducible assumption) | assumption)
                                    have q349 : x6_2 < (l0.length : Int) := of_decide_eq_true (by first | (with_reducible assumption) | assumption)
                                    obtain ⟨ad349, A349_1, c349_1, e349, hx349_0, hx349_1, hl349_1, hi349_1⟩ := at_T30 HR0.out x6_2 p349 q349
                                    obtain rfl : ad347 = ad349 := (by injection e349)
                                    replace hx349_0 := (HB.out.cell (World.block_lt_of_cell? w _ hx349_0)).trans hx349_0
                                    replace hx349_1 := (HB.out.cell (World.block_lt_of_cell? w _ hx349_1)).trans hx349_1
                                    have HR349_1 := Aside0.mk hi349_1
                                    have HC349_1 := Aside0.mk hl349_1
                                    clear hi349_1 hl349_1
                                    replace p349 := eq_true p349
                                    replace q349 := eq_true q349
                                    have ea_ := Option.some.inj (hx348_1.symm.trans hx349_1)
                                    injection ea_ with ea_ en_ ec_
                                    subst ea_
                                    subst ec_
                                    clear en_
                                    have p350 : 0 ≤ (x7_3 : Int) := of_decide_eq_true (by first | (with_reducible assumption) | assumption)
                                    have q350 : x7_3 < (((rd_T30 l0 x6_2).f1).length : Int) := of_decide_eq_true (by first | (with_reducible assumption) | assumption)
                                    obtain ⟨ad350, e350, hx350_0⟩ := Kd.at_int HR349_1.out x7_3 p350 q350
                                    cases e350
                                    replace hx350_0 := (HB.out.cell (World.block_lt_of_cell? w _ hx350_0)).trans hx350_0
                                    replace p350 := eq_true p350
                                    replace q350 := eq_true q350
                                    go_wp2_with (first | (go_at_call 30; (with_reducible refine (inclineref21_digits.calls k3 (rd ((rd_T30 l0 x6_2).f1) x7_3) t351 _ A17.out).mono ?_); rintro e w19 ⟨rfl, hb⟩; have n0_ := Aside0.mk (below_step (by repeat (first | (with_reducible first | exact HB.out | apply below_alloc | apply pw_below_drewN | apply below_drew1) | exact HB.out)) hb); clear HB; have HB := n0_; clear n0_; (try clear hb); (try clear hb2); (try clear hk); (try clear hi)))
                                    repeat (go_quiet (first | (go_at_call 30; (with_reducible refine (inclineref21_digits.calls k3 (rd ((rd_T30 l0 x6_2).f1) x7_3) t351 _ A17.out).mono ?_); rintro e w19 ⟨rfl, hb⟩; have n0_ := Aside0.mk (below_step (by repeat (first | (with_reducible first | exact HB.out | apply below_alloc | apply pw_below_drewN | apply below_drew1) | exact HB.out)) hb); clear HB; have HB := n0_; clear n0_; (try clear hb); (try clear hb2); (try clear hk); (try clear hi))); try go_wp2_with (first | (go_at_call 30; (with_reducible refine (inclineref21_digits.calls k3 (rd ((rd_T30 l0 x6_2).f1) x7_3) t351 _ A17.out).mono ?_); rintro e w19 ⟨rfl, hb⟩; have n0_ := Aside0.mk (below_step (by repeat (first | (with_reducible first | exact HB.out | apply below_alloc | apply pw_below_drewN | apply below_drew1) | exact HB.out)) hb); clear HB; have HB := n0_; clear n0_; (try clear hb); (try clear hb2); (try clear hk); (try clear hi))))
                                    go_roundg k3
                                    case measure => have := HK1.out; have := HK2.out; have := HK3.out; omega
                                    case rel => exact ⟨((x5_3 ++ (⟨#[32]⟩ : ByteArray)) ++ t351), (wrap64 (x7_3 + 1)), (by first | rfl | (simp; done) | (simp [*]; done)), (by first | rfl | (simp; done) | (simp [*]; done)), H', ⟨by have := HK1.out; have := HK2.out; have := HK3.out; omega⟩, ⟨by repeat (first | (with_reducible first | exact HB.out | apply below_alloc | apply pw_below_drewN | apply below_drew1) | exact HB.out)⟩⟩
                                  · rw [if_neg c18] at H
                                    exact absurd H (by simp)
                                · rw [if_neg c16] at H
                                  exact absurd H (by simp)
                              · rw [if_neg c15] at H
                                exact absurd H (by simp)
                            · rw [if_neg c14] at H
                              have c14b0 : decide (x7_3 < (((rd_T30 l0 x6_2).f1).length : Int)) = false := decide_eq_false c14
                              clear c14
                              by_cases c20 : x5_3.size + 1 ≤ 9223372036854775807
                              · rw [if_pos c20] at H
                                have c20b0 := eq_true c20
                                have c20b1 : decide (x5_3.size + 1 ≤ 9223372036854775807) = true := decide_eq_true c20
                                try have c20b2 : (9223372036854775807 < x5_3.size + 1) = False := eq_false (Nat.not_lt.2 c20)
                                by_cases c21 : ((x5_3 ++ (⟨#[10]⟩ : ByteArray)).size : Int) > 65536
                                · rw [if_pos c21] at H
                                  have c21b0 : decide (65536 < ((x5_3 ++ (⟨#[10]⟩ : ByteArray)).size : Int)) = true := decide_eq_true c21
                                  have c21x0z : decide (65536 < (x5_3.size : Int) + 1) = true := decide_eq_true (by have h := c21; simp only [ByteArray.size_append] at h; have hl0 : (⟨#[10]⟩ : ByteArray).size = 1 := rfl; omega)
                                  have c21b1 : decide (65536 < (x5_3 ++ (⟨#[10]⟩ : ByteArray)).size) = true := decide_eq_true (by omega)
                                  clear c21
                                  simp only [Option.some.injEq, Prod.mk.injEq] at H
                                  obtain ⟨rfl, rfl⟩ := H
                                  have p348 : 0 ≤ (x6_2 : Int) := of_decide_eq_true (by first | (with_reducible assumption) | assumption)
                                  have q348 : x6_2 < (l0.length : Int) := of_decide_eq_true (by first | (with_reducible assumption) | assumption)
                                  obtain ⟨ad348, A348_1, c348_1, e348, hx348_0, hx348_1, hl348_1, hi348_1⟩ := at_T30 HR0.out x6_2 p348 q348
                                  obtain rfl : ad347 = ad348 := (by injection e348)
                                  replace hx348_0 := (HB.out.cell (World.block_lt_of_cell? w _ hx348_0)).trans hx348_0
                                  replace hx348_1 := (HB.out.cell (World.block_lt_of_cell? w _ hx348_1)).trans hx348_1
                                  have HR348_1 := Aside0.mk hi348_1
                                  have HC348_1 := Aside0.mk hl348_1
                                  clear hi348_1 hl348_1
                                  replace p348 := eq_true p348
                                  replace q348 := eq_true q348
                                  go_wp2
                                  repeat (go_quiet (fail); try go_wp2)
                                  go_ret2
                                  exact ⟨by first | rfl | (simp [errW_none, errW_some] <;> rfl) | (simp [*, errW_none, errW_some] <;> rfl), by repeat (first | (with_reducible first | exact HB.out | apply below_alloc | apply pw_below_drewN | apply below_drew1) | exact HB.out)⟩
                                · rw [if_neg c21] at H
                                  have c21b0 : decide (65536 < ((x5_3 ++ (⟨#[10]⟩ : ByteArray)).size : Int)) = false := decide_eq_false c21
                                  have c21x0z : decide (65536 < (x5_3.size : Int) + 1) = false := decide_eq_false (by have h := c21; simp only [ByteArray.size_append] at h; have hl0 : (⟨#[10]⟩ : ByteArray).size = 1 := rfl; omega)
                                  have c21b1 : decide (65536 < (x5_3 ++ (⟨#[10]⟩ : ByteArray)).size) = false := decide_eq_false (by omega)
                                  clear c21
                                  have H' := Aside0.mk H
                                  clear H
                                  have p348 : 0 ≤ (x6_2 : Int) := of_decide_eq_true (by first | (with_reducible assumption) | assumption)
                                  have q348 : x6_2 < (l0.length : Int) := of_decide_eq_true (by first | (with_reducible assumption) | assumption)
                                  obtain ⟨ad348, A348_1, c348_1, e348, hx348_0, hx348_1, hl348_1, hi348_1⟩ := at_T30 HR0.out x6_2 p348 q348
                                  obtain rfl : ad347 = ad348 := (by injection e348)
                                  replace hx348_0 := (HB.out.cell (World.block_lt_of_cell? w _ hx348_0)).trans hx348_0
                                  replace hx348_1 := (HB.out.cell (World.block_lt_of_cell? w _ hx348_1)).trans hx348_1
                                  have HR348_1 := Aside0.mk hi348_1
                                  have HC348_1 := Aside0.mk hl348_1
                                  clear hi348_1 hl348_1
                                  replace p348 := eq_true p348
                                  replace q348 := eq_true q348
                                  go_wp2
                                  repeat (go_quiet (fail); try go_wp2)
                                  go_roundg k3
                                  case measure => have := HK1.out; have := HK2.out; have := HK3.out; omega
                                  case rel => exact ⟨(x5_3 ++ (⟨#[10]⟩ : ByteArray)), (wrap64 (x6_2 + 1)), (by first | rfl | (simp; done) | (simp [*]; done)), (by first | rfl | (simp; done) | (simp [*]; done)), H', ⟨by have := HK1.out; have := HK2.out; have := HK3.out; omega⟩, ⟨by repeat (first | (with_reducible first | exact HB.out | apply below_alloc | apply pw_below_drewN | apply below_drew1) | exact HB.out)⟩⟩
                              · rw [if_neg c20] at H
                                exact absurd H (by simp)
                          · rw [if_neg c13] at H
                            exact absurd H (by simp)
                        · rw [if_neg c12] at H
                          exact absurd H (by simp)
                  · rw [if_neg c11] at H
                    exact absurd H (by simp)
                · rw [if_neg c10] at H
                  exact absurd H (by simp)
              · rw [if_neg c9] at H
                have c9b0 : decide (x6_2 < (l0.length : Int)) = false := decide_eq_false c9
                clear c9
                simp only [Option.some.injEq, Prod.mk.injEq] at H
                obtain ⟨rfl, rfl⟩ := H
                go_wp2
                repeat (go_quiet (fail); try go_wp2)
                go_ret2
                exact ⟨by first | rfl | (simp [errW_none, errW_some] <;> rfl) | (simp [*, errW_none, errW_some] <;> rfl), by repeat (first | (with_reducible first | exact HB.out | apply below_alloc | apply pw_below_drewN | apply below_drew1) | exact HB.out)⟩

end Go.Proofs.YtlfoaaeelcmhiaaDoor.G
end

section
-- Written by a program of this session (wip/gprint.py: the kit's print, with contracts proved by hand)
namespace Go.Proofs.YtlfoaaeelcmhiaaDoor.G
open Go.RowKit Go.Proofs.YtlfoaaeelcmhiaaDoorW.PrintWords Go.Proofs.YtlfoaaeelcmhiaaDoorW.PrintLast Go.Proofs.YtlfoaaeelcmhiaaDoorW.PrintMore
attribute [local go_sem] max2_int min2_int max_two min_two max_three min_three max_four min_four   -- for this text's walks alone
set_option linter.unusedVariables false
set_option linter.unusedSimpArgs false

/-! ### inclinelaw21_ScriptPrints: function 4 -/
def inclinelaw21_ScriptPrints.f (k : Nat) (l0 : List (S30)) : Option (Bool) := (inclinelaw21_shown.f k).bind fun t352 => (if t352 = true then ((inclinelaw21_copied.f k l0).bind fun t353 => ((script_Print.f k t353).bind fun bt356 => ((inclineref21_Print.f k l0).bind fun bt358 => (if bt356.1.toList = bt358.1.toList then (if bt356.2 = bt358.2 then ((inclinelaw21_same.f k t353 l0).bind fun t360 => (some t360)) else (none)) else (none))))) else (none))
theorem inclinelaw21_ScriptPrints.mono : ∀ a0 k, LeO (inclinelaw21_ScriptPrints.f k a0) (inclinelaw21_ScriptPrints.f (k + 1) a0) := by
  intro a0 k
  unfold inclinelaw21_ScriptPrints.f
  repeat' first
      | (with_reducible exact inclinelaw21_copied.mono _ _)
      | (with_reducible exact inclinelaw21_same.mono _ _ _)
      | (with_reducible exact inclinelaw21_shown.mono _)
      | (with_reducible exact inclineref21_Print.mono _ _)
      | (with_reducible exact script_Print.mono _ _)
      | (with_reducible exact LeO.refl _)
      | (with_reducible exact LeO.none _)
      | (with_reducible refine LeO.ite ?_ ?_)
      | (with_reducible refine LeO.bind ?_ (fun _ => ?_))
      | exact inclinelaw21_copied.mono _ _
      | exact inclinelaw21_same.mono _ _ _
      | exact inclinelaw21_shown.mono _
      | exact inclineref21_Print.mono _ _
      | exact script_Print.mono _ _
      | exact LeO.none _
      | refine LeO.ite ?_ ?_
      | refine LeO.bind ?_ (fun _ => ?_)
set_option maxHeartbeats 8000000 in
set_option maxRecDepth 100000 in
theorem inclinelaw21_ScriptPrints.calls (k : Nat) (A0 : Option Addr) (c0 : Nat) (l0 : List (S30)) (r : Bool) (w : World) (hr0 : Kd.C k30 w A0 l0.length l0) (hc0 : l0.length ≤ c0) (hT : Tabs w) (h : inclinelaw21_ScriptPrints.f k l0 = some r) :
    Calls Tryd.prog 4 #[.slice A0 l0.length c0] w fun e w' => e = .returned (.bool r) ∧ Below w.heap.size w w' := by
  have HT := Aside0.mk hT
  clear hT
  have HR0 := Aside0.mk hr0
  have HC0 := Aside0.mk hc0
  clear hr0 hc0
  have HB := Aside0.mk (Below.refl w.heap.size w)
  have H : ((inclinelaw21_shown.f k).bind fun t352 => (if t352 = true then ((inclinelaw21_copied.f k l0).bind fun t353 => ((script_Print.f k t353).bind fun bt356 => ((inclineref21_Print.f k l0).bind fun bt358 => (if bt356.1.toList = bt358.1.toList then (if bt356.2 = bt358.2 then ((inclinelaw21_same.f k t353 l0).bind fun t360 => (some t360)) else (none)) else (none))))) else (none))) = some r := h
  clear h
  replace H := Option.bind_eq_some_iff.mp H
  obtain ⟨t352, A20, H⟩ := H
  replace H : (if t352 = true then ((inclinelaw21_copied.f k l0).bind fun t353 => ((script_Print.f k t353).bind fun bt356 => ((inclineref21_Print.f k l0).bind fun bt358 => (if bt356.1.toList = bt358.1.toList then (if bt356.2 = bt358.2 then ((inclinelaw21_same.f k t353 l0).bind fun t360 => (some t360)) else (none)) else (none))))) else (none)) = some r := H
  have A2 := Aside0.mk A20
  clear A20
  by_cases c3 : t352 = true
  · subst c3
    have H1 : ((inclinelaw21_copied.f k l0).bind fun t353 => ((script_Print.f k t353).bind fun bt356 => ((inclineref21_Print.f k l0).bind fun bt358 => (if bt356.1.toList = bt358.1.toList then (if bt356.2 = bt358.2 then ((inclinelaw21_same.f k t353 l0).bind fun t360 => (some t360)) else (none)) else (none))))) = some r := by rw [if_pos rfl] at H; exact H
    clear H
    have H := H1
    clear H1
    replace H := Option.bind_eq_some_iff.mp H
    obtain ⟨t353, A40, H⟩ := H
    replace H : ((script_Print.f k t353).bind fun bt356 => ((inclineref21_Print.f k l0).bind fun bt358 => (if bt356.1.toList = bt358.1.toList then (if bt356.2 = bt358.2 then ((inclinelaw21_same.f k t353 l0).bind fun t360 => (some t360)) else (none)) else (none)))) = some r := H
    have A4 := Aside0.mk A40
    clear A40
    replace H := Option.bind_eq_some_iff.mp H
    obtain ⟨⟨t356, t357⟩, A50, H⟩ := H
    replace H : ((inclineref21_Print.f k l0).bind fun bt358 => (if t356.toList = bt358.1.toList then (if t357 = bt358.2 then ((inclinelaw21_same.f k t353 l0).bind fun t360 => (some t360)) else (none)) else (none))) = some r := H
    have A5 := Aside0.mk A50
    clear A50
    replace H := Option.bind_eq_some_iff.mp H
    obtain ⟨⟨t358, t359⟩, A60, H⟩ := H
    replace H : (if t356.toList = t358.toList then (if t357 = t359 then ((inclinelaw21_same.f k t353 l0).bind fun t360 => (some t360)) else (none)) else (none)) = some r := H
    have A6 := Aside0.mk A60
    clear A60
    by_cases c7 : t356.toList = t358.toList
    · rw [if_pos c7] at H
      have c7b0 : (t356.toList == t358.toList) = true := beq_iff_eq.mpr c7
      have c7b1 : (t356.toList != t358.toList) = false := bne_eq_false_iff_eq.mpr c7
      clear c7
      by_cases c8 : t357 = t359
      · rw [if_pos c8] at H
        have c8b0 : (t357 == t359) = true := beq_iff_eq.mpr c8
        have c8b1 : (t357 != t359) = false := bne_eq_false_iff_eq.mpr c8
        clear c8
        replace H := Option.bind_eq_some_iff.mp H
        obtain ⟨t360, A90, H⟩ := H
        replace H : (some t360) = some r := H
        have A9 := Aside0.mk A90
        clear A90
        obtain rfl := Option.some.inj H
        go_enter Tryd.func4, Tryd.ntmps4
        go_wp2_with (first | ((with_reducible refine gate_callee (f := 11) rfl ?_); refine goesL_ (some 9) rfl rfl Tryd.func11 (by kernel_rfl) rfl #[] rfl (by (try simp only [List.map_toArray, List.map_cons, List.map_nil]); first | done | rfl | (simp only [List.length_drop, List.length_take]; rfl)) ?_; (with_reducible refine (inclinelaw21_shown.calls k  true _ ?sideT A2.out).mono ?_); (case sideT => exact Tabs.keep HT.out (by repeat (first | (with_reducible first | exact HB.out | apply below_alloc | apply pw_below_drewN | apply below_drew1) | exact HB.out))); rintro e w10 ⟨rfl, hb⟩; refine ⟨_, rfl, ?_⟩; have n0_ := Aside0.mk (below_step (by repeat (first | (with_reducible first | exact HB.out | apply below_alloc | apply pw_below_drewN | apply below_drew1) | exact HB.out)) hb); clear HB; have HB := n0_; clear n0_; (try clear hb); (try clear hb2); (try clear hk); (try clear hi)) | ((with_reducible refine gate_callee (f := 15) rfl ?_); refine goesL_ (some 13) rfl rfl Tryd.func15 (by kernel_rfl) rfl #[.slice A0 l0.length c0] rfl (by (try simp only [List.map_toArray, List.map_cons, List.map_nil]); first | done | rfl | (simp only [List.length_drop, List.length_take]; rfl)) ?_; (with_reducible refine (inclinelaw21_copied.calls k _ _ l0 t353 _ ?side1 ?side2 A4.out).mono ?_); (case side1 => repeat (first | exact (Kd.C_below HR0.out HB.out) | (with_reducible refine Kd.C_alloc ?_ _) | (with_reducible refine Kd.C_drewN ?_ _) | (with_reducible refine Kd.C_drew ?_))); (case side2 => exact HC0.out); rintro e w11 ⟨v354, rfl, ho0, hb⟩; refine ⟨_, rfl, ?_⟩; have n0_ := Aside0.mk (Kd.S_lower ho0 (below_size (by repeat (first | (with_reducible first | exact HB.out | apply below_alloc | apply pw_below_drewN | apply below_drew1) | exact HB.out)))); have n1_ := Aside0.mk (below_step (by repeat (first | (with_reducible first | exact HB.out | apply below_alloc | apply pw_below_drewN | apply below_drew1) | exact HB.out)) hb); clear HB; have HO355 := n0_; have HB := n1_; clear n0_ n1_; (try clear hb); (try clear hb2); (try clear hk); (try clear hi); (try clear ho0); obtain ⟨Ao12, co12, eo12⟩ := Kd.S_slice HO355.out; subst eo12) | ((with_reducible refine gate_callee (f := 16) rfl ?_); refine goesL_ (some 16) rfl rfl Tryd.func16 (by kernel_rfl) rfl #[.slice Ao12 t353.length co12] rfl (by (try simp only [List.map_toArray, List.map_cons, List.map_nil]); first | done | rfl | (simp only [List.length_drop, List.length_take]; rfl)) ?_; (with_reducible refine (script_Print.calls k _ _ t353 t356 t357 _ ?side1 ?side2 ?sideT A5.out).mono ?_); (case sideT => exact Tabs.keep HT.out (by repeat (first | (with_reducible first | exact HB.out | apply below_alloc | apply pw_below_drewN | apply below_drew1) | exact HB.out))); (case side1 => repeat (first | exact (Kd.S_reads' HO355.out).2.2 | (with_reducible refine Kd.C_alloc ?_ _) | (with_reducible refine Kd.C_drewN ?_ _) | (with_reducible refine Kd.C_drew ?_))); (case side2 => exact (Kd.S_reads' HO355.out).2.1); rintro e w13 ⟨rfl, hb⟩; refine ⟨_, rfl, ?_⟩; have n0_ := Aside0.mk (Kd.S_below (by (with_reducible repeat (first | apply Kd.S_alloc | apply Kd.S_drewN | apply Kd.S_drew)); exact HO355.out) hb); have n1_ := Aside0.mk (below_step (by repeat (first | (with_reducible first | exact HB.out | apply below_alloc | apply pw_below_drewN | apply below_drew1) | exact HB.out)) hb); clear HO355; clear HB; have HO355 := n0_; have HB := n1_; clear n0_ n1_; (try clear hb); (try clear hb2); (try clear hk); (try clear hi)) | ((with_reducible refine gate_callee (f := 17) rfl ?_); refine goesL_ (some 21) rfl rfl Tryd.func17 (by kernel_rfl) rfl #[.slice A0 l0.length c0] rfl (by (try simp only [List.map_toArray, List.map_cons, List.map_nil]); first | done | rfl | (simp only [List.length_drop, List.length_take]; rfl)) ?_; (with_reducible refine (inclineref21_Print.calls k _ _ l0 t358 t359 _ ?side1 ?side2 A6.out).mono ?_); (case side1 => repeat (first | exact (Kd.C_below HR0.out HB.out) | (with_reducible refine Kd.C_alloc ?_ _) | (with_reducible refine Kd.C_drewN ?_ _) | (with_reducible refine Kd.C_drew ?_))); (case side2 => exact HC0.out); rintro e w14 ⟨rfl, hb⟩; refine ⟨_, rfl, ?_⟩; have n0_ := Aside0.mk (Kd.S_below (by (with_reducible repeat (first | apply Kd.S_alloc | apply Kd.S_drewN | apply Kd.S_drew)); exact HO355.out) hb); have n1_ := Aside0.mk (below_step (by repeat (first | (with_reducible first | exact HB.out | apply below_alloc | apply pw_below_drewN | apply below_drew1) | exact HB.out)) hb); clear HO355; clear HB; have HO355 := n0_; have HB := n1_; clear n0_ n1_; (try clear hb); (try clear hb2); (try clear hk); (try clear hi)) | (go_at_call 14; (with_reducible refine (inclinelaw21_same.calls k _ _ t353 _ _ l0 t360 _ ?side1 ?side2 ?side3 ?side4 A9.out).mono ?_); (case side1 => repeat (first | exact (Kd.S_reads' HO355.out).2.2 | (with_reducible refine Kd.C_alloc ?_ _) | (with_reducible refine Kd.C_drewN ?_ _) | (with_reducible refine Kd.C_drew ?_))); (case side2 => exact (Kd.S_reads' HO355.out).2.1); (case side3 => repeat (first | exact (Kd.C_below HR0.out HB.out) | (with_reducible refine Kd.C_alloc ?_ _) | (with_reducible refine Kd.C_drewN ?_ _) | (with_reducible refine Kd.C_drew ?_))); (case side4 => exact HC0.out); rintro e w' ⟨rfl, ⟨nd, rfl⟩⟩))
        go_ret
        exact ⟨by first | rfl | (simp [errW_none, errW_some] <;> rfl) | (simp [*, errW_none, errW_some] <;> rfl), by repeat (first | (with_reducible first | exact HB.out | apply below_alloc | apply pw_below_drewN | apply below_drew1) | exact HB.out)⟩
      · rw [if_neg c8] at H
        exact absurd H (by simp)
    · rw [if_neg c7] at H
      exact absurd H (by simp)
  · replace c3 := Bool.eq_false_iff.mpr c3
    subst c3
    have H1 : (none) = some r := by rw [if_neg (show ¬ (false = true) by decide)] at H; exact H
    clear H
    have H := H1
    clear H1
    exact absurd H (by simp)

end Go.Proofs.YtlfoaaeelcmhiaaDoor.G
end

section
/- ScriptPrints: its plain law, its walk. -/
namespace Go.Proofs.YtlfoaaeelcmhiaaDoor
open Go.RowKit Go.Proofs.YtlfoaaeelcmhiaaDoor.Reading G
open Go.Proofs.YtlfoaaeelcmhiaaDoorW.PrintWords hiding nums
set_option linter.unusedVariables false
namespace Pure
/-- The first command that can't be written: why. -/
def firstErr : List S30 → Option Int
  | [] => none
  | c :: cs => if takesL (bl c.f0) = -1 then some 211 else if (c.f1.length : Int) ≠ takesL (bl c.f0) then some 213 else firstErr cs
theorem firstErr_cons (c : S30) (cs : List S30) : firstErr (c :: cs) = if takesL (bl c.f0) = -1 then some 211 else if (c.f1.length : Int) ≠ takesL (bl c.f0) then some 213 else firstErr cs := rfl
def lineOf (c : S30) : Bytes := bl c.f0 ++ numsText c.f1 ++ [10]
def textOf (l : List S30) : Bytes := l.flatMap lineOf
def printT (l : List S30) (bs : Bytes) : ByteArray × Int := match firstErr l with
  | some e => (⟨#[]⟩, e)
  | none => if 65536 < (bs ++ textOf l).length then (⟨#[]⟩, 210) else (mk (bs ++ textOf l), 0)
theorem prGo_T (l : List S30) : ∀ bs, prGo l bs = printT l bs := by
  induction l with
  | nil => intro bs; simp [prGo, printT, firstErr, textOf]
  | cons c l ih =>
    intro bs
    unfold prGo printT firstErr
    by_cases h1 : takesL (bl c.f0) = -1
    · rw [if_pos h1, if_pos h1]
    · rw [if_neg h1, if_neg h1]
      by_cases h2 : (c.f1.length : Int) ≠ takesL (bl c.f0)
      · rw [if_pos h2, if_pos h2]
      · rw [if_neg h2, if_neg h2, ih]
        unfold printT
        have e : bs ++ bl c.f0 ++ numsText c.f1 ++ [10] ++ textOf l = bs ++ textOf (c :: l) := by simp [textOf, lineOf]
        rw [e]
theorem copied_l0 (l : List S30) (hl : l.length ≤ 3518437208781) (hn : ∀ c ∈ l, c.f1.length ≤ 17592186044404) : ∀ (d i k : Nat), l.length = i + d → inclinelaw21_copied.l0 (k + d + 1) l (l.take i) (i : Int) = some l := by
  intro d
  induction d with
  | zero =>
    intro i k h1
    simp only [inclinelaw21_copied.l0]
    rw [if_neg (by omega), List.take_of_length_le (by omega)]
  | succ d ih =>
    intro i k h1
    have hi : i < l.length := by omega
    have hc := hn _ (List.getElem_mem hi)
    obtain ⟨m, hm⟩ : ∃ m, k + (d + 1) = m := ⟨_, rfl⟩
    rw [hm]
    simp only [inclinelaw21_copied.l0]
    rw [if_pos (by omega), if_pos (by omega), rdT_get _ _ hi, Option.bind_some, if_pos (by simp only [List.length_nil]; omega), if_pos (by rw [List.length_take]; omega), w64 (by omega) (by omega), ← hm]
    have e : l.take i ++ [(⟨l[i].f0, ([] : List Int) ++ l[i].f1⟩ : S30)] = l.take (i + 1) := by rw [List.take_succ_eq_append_getElem hi]; rfl
    rw [e, show (i : Int) + 1 = ((i + 1 : Nat) : Int) from rfl, show k + (d + 1) = k + d + 1 from rfl]
    exact ih (i + 1) k (by omega)
theorem ref_l2 (l : List S30) (hln : l.length ≤ 4096) (i : Nat) (hi : i < l.length) (hns : ∀ n ∈ l[i].f1, u64ok n) (hnl : l[i].f1.length ≤ 1000) : ∀ (d j : Nat) (bs : Bytes) (k : Nat), l[i].f1.length = j + d → bs.length + 21 * d ≤ 1000000000 → 20 ≤ k →
    inclineref21_Print.l2 (k + d + 1) l (mk bs) (i : Int) (j : Int) = (if 65536 < (bs ++ numsText (l[i].f1.drop j) ++ [10]).length then some (⟨#[]⟩, 210) else inclineref21_Print.l1 k l (mk (bs ++ numsText (l[i].f1.drop j) ++ [10])) ((i + 1 : Nat) : Int)) := by
  intro d
  have h1' : (⟨#[32]⟩ : ByteArray).size = 1 := rfl
  have h10' : (⟨#[10]⟩ : ByteArray).size = 1 := rfl
  have e10 : ∀ x : Bytes, mk x ++ (⟨#[10]⟩ : ByteArray) = mk (x ++ [10]) := fun x => by apply bl_inj; rw [bl_append, bl_mk, bl_mk]; rfl
  have e32 : ∀ x : Bytes, mk x ++ (⟨#[32]⟩ : ByteArray) = mk (x ++ [32]) := fun x => by apply bl_inj; rw [bl_append, bl_mk, bl_mk]; rfl
  have hsz : ∀ x : Bytes, (mk x).size = x.length := fun x => by rw [← bl_length, bl_mk]
  induction d with
  | zero =>
    intro j bs k h1 h2 hk
    rw [List.drop_eq_nil_of_le (by omega), show numsText [] = [] from rfl, List.append_nil]
    simp only [inclineref21_Print.l2]
    rw [if_pos (by omega), if_pos (by omega), rdT_get _ _ hi, if_neg (by omega), if_pos (by rw [hsz]; omega), e10, hsz]
    by_cases h : 65536 < (bs ++ [10]).length
    · rw [if_pos (by omega), if_pos h]
    · rw [if_neg (by omega), if_neg h, w64 (by omega) (by omega)]
      rfl
  | succ d ih =>
    intro j bs k h1 h2 hk
    have hj : j < l[i].f1.length := by omega
    have hu := hns _ (List.getElem_mem hj)
    have hd := dec_len hu
    obtain ⟨m, hm⟩ : ∃ m, k + (d + 1) = m := ⟨_, rfl⟩
    rw [hm]
    simp only [inclineref21_Print.l2]
    have hds : mk (bs ++ [32]) ++ dstr l[i].f1[j].toNat = mk (bs ++ (32 :: Lib.decDigits l[i].f1[j].toNat)) := by
      apply bl_inj; rw [bl_append, bl_mk, bl_mk]; simp [bl, dstr]
    have hdz : (dstr l[i].f1[j].toNat).size ≤ 20 := by rw [← bl_length]; simpa [bl, dstr] using hd
    rw [if_pos (by omega), if_pos (by omega), rdT_get _ _ hi, if_pos (by omega), if_pos (by rw [hsz]; omega), if_pos (by omega), rd_get _ _ hj, digits_f _ hu.1 hu.2 m (by omega), Option.bind_some, e32, if_pos (by rw [hsz, List.length_append]; simp only [List.length_cons, List.length_nil]; omega), hds, w64 (by omega) (by omega), show (j : Int) + 1 = ((j + 1 : Nat) : Int) from rfl, ← hm]
    have := ih (j + 1) (bs ++ (32 :: Lib.decDigits l[i].f1[j].toNat)) k (by omega) (by rw [List.length_append, List.length_cons]; omega) hk
    rw [show k + (d + 1) = k + d + 1 from rfl, this]
    have e : numsText (l[i].f1.drop j) = (32 :: Lib.decDigits l[i].f1[j].toNat) ++ numsText (l[i].f1.drop (j + 1)) := by rw [List.drop_eq_getElem_cons hj]; rfl
    rw [e, List.append_assoc bs]
theorem textOf_len_pos (c : S30) (l : List S30) : (lineOf c).length ≤ (textOf (c :: l)).length := by
  have : textOf (c :: l) = lineOf c ++ textOf l := rfl
  rw [this, List.length_append]
  omega
theorem firstErr_ok (c : S30) (l : List S30) (h : firstErr (c :: l) = none) : takesL (bl c.f0) ≠ -1 ∧ (c.f1.length : Int) = takesL (bl c.f0) ∧ firstErr l = none := by
  unfold firstErr at h
  by_cases h1 : takesL (bl c.f0) = -1
  · rw [if_pos h1] at h; cases h
  · rw [if_neg h1] at h
    by_cases h2 : (c.f1.length : Int) ≠ takesL (bl c.f0)
    · rw [if_pos h2] at h; cases h
    · rw [if_neg h2] at h
      exact ⟨h1, by omega, h⟩
theorem ref_l1 (l : List S30) (hln : l.length ≤ 4096) (hw : ∀ c ∈ l, ∀ n ∈ c.f1, u64ok n) : ∀ (d i : Nat) (bs : Bytes) (k : Nat), l.length = i + d → firstErr (l.drop i) = none → bs.length ≤ 65536 → 6 * d + 40 ≤ k →
    inclineref21_Print.l1 k l (mk bs) (i : Int) = some (if 65536 < (bs ++ textOf (l.drop i)).length then (⟨#[]⟩, 210) else (mk (bs ++ textOf (l.drop i)), 0)) := by
  intro d
  have hsz : ∀ x : Bytes, (mk x).size = x.length := fun x => by rw [← bl_length, bl_mk]
  induction d with
  | zero =>
    intro i bs k h1 _ hb hk
    obtain ⟨k, rfl⟩ : ∃ m, k = m + 1 := ⟨k - 1, by omega⟩
    rw [List.drop_eq_nil_of_le (by omega), show textOf [] = [] from rfl, List.append_nil]
    simp only [inclineref21_Print.l1]
    rw [if_neg (by omega), if_neg (by omega)]
  | succ d ih =>
    intro i bs k h1 hfe hb hk
    obtain ⟨k, rfl⟩ : ∃ m, k = m + 1 := ⟨k - 1, by omega⟩
    have hi : i < l.length := by omega
    have hwi := hw _ (List.getElem_mem hi)
    rw [List.drop_eq_getElem_cons hi] at hfe ⊢
    obtain ⟨f1, f2, f3⟩ := firstErr_ok _ _ hfe
    have hlen := (takesL_len _ f1).1
    have hr := takesL_range (bl l[i].f0)
    have hlen' := hlen
    rw [bl_length] at hlen'
    have hnl := numsText_len _ hwi
    simp only [inclineref21_Print.l1]
    have ew : mk bs ++ l[i].f0 = mk (bs ++ bl l[i].f0) := by apply bl_inj; rw [bl_append, bl_mk, bl_mk]
    rw [if_pos (by omega), if_pos (by omega), rdT_get _ _ hi, if_pos (by rw [hsz]; omega), ew]
    obtain ⟨k', hk'⟩ : ∃ k', k = k' + l[i].f1.length + 1 := ⟨k - l[i].f1.length - 1, by omega⟩
    have h2 := ref_l2 l hln i hi hwi (by omega) l[i].f1.length 0 (bs ++ bl l[i].f0) k' (by omega) (by rw [List.length_append]; omega) (by omega)
    rw [← hk', show ((0 : Nat) : Int) = 0 from rfl, List.drop_zero] at h2
    have el : bs ++ bl l[i].f0 ++ numsText l[i].f1 ++ [10] = bs ++ lineOf l[i] := by simp [lineOf]
    rw [h2, el]
    have et : textOf (l[i] :: l.drop (i + 1)) = lineOf l[i] ++ textOf (l.drop (i + 1)) := rfl
    rw [et, ← List.append_assoc]
    by_cases h : 65536 < (bs ++ lineOf l[i]).length
    · rw [if_pos h, if_pos (by rw [List.length_append]; omega)]
    · rw [if_neg h]
      exact ih (i + 1) _ k' (by omega) f3 (by omega) (by omega)
theorem ref_l0 (l : List S30) (hln : l.length ≤ 4096) (hw : ∀ c ∈ l, ∀ n ∈ c.f1, u64ok n) (hall : firstErr l = none → True) : ∀ (d i k : Nat), l.length = i + d → 7 * l.length + d + 50 ≤ k → (firstErr (l.drop i) = none → firstErr l = none) → (∀ e, firstErr (l.drop i) = some e → firstErr l = some e) →
    inclineref21_Print.l0 k l (i : Int) = some (printT l []) := by
  intro d
  induction d with
  | zero =>
    intro i k h1 hk hn hs
    obtain ⟨k, rfl⟩ : ∃ m, k = m + 1 := ⟨k - 1, by omega⟩
    have hfe : firstErr l = none := hn (by rw [List.drop_eq_nil_of_le (by omega)]; rfl)
    simp only [inclineref21_Print.l0]
    rw [if_neg (by omega)]
    have := ref_l1 l hln hw l.length 0 [] k (by omega) (by rw [List.drop_zero]; exact hfe) (by simp) (by omega)
    rw [List.drop_zero] at this
    unfold printT
    rw [hfe]
    exact this
  | succ d ih =>
    intro i k h1 hk hn hs
    obtain ⟨k, rfl⟩ : ∃ m, k = m + 1 := ⟨k - 1, by omega⟩
    have hi : i < l.length := by omega
    have hr := takesL_range (bl l[i].f0)
    rw [List.drop_eq_getElem_cons hi] at hn hs
    simp only [inclineref21_Print.l0]
    rw [if_pos (by omega), if_pos (by omega), rdT_get _ _ hi, refTakes_is k (by omega), Option.bind_some]
    simp only [firstErr_cons] at hn hs
    by_cases ht : takesL (bl l[i].f0) = -1
    · rw [if_pos (by omega)]
      have := hs 211 (by rw [if_pos ht])
      unfold printT
      rw [this]
    · rw [if_neg (by omega), Option.bind_some]
      by_cases h2 : (l[i].f1.length : Int) ≠ takesL (bl l[i].f0)
      · rw [if_neg (by omega)]
        have := hs 213 (by rw [if_neg ht, if_pos h2])
        unfold printT
        rw [this]
      · rw [if_pos (by omega), w64 (by omega) (by omega)]
        exact ih (i + 1) k (by omega) (by omega) (fun h => hn (by rw [if_neg ht, if_neg h2]; exact h)) (fun e h => hs e (by rw [if_neg ht, if_neg h2]; exact h))
theorem refPrint_is (l : List S30) (hw : ∀ c ∈ l, ∀ n ∈ c.f1, u64ok n) (k : Nat) (hk : 40000 ≤ k) : inclineref21_Print.f k l = some (if 4096 < l.length then (⟨#[]⟩, 210) else printT l []) := by
  unfold inclineref21_Print.f
  by_cases h : 4096 < l.length
  · rw [if_pos (by omega), if_pos h]
  · rw [if_neg (by omega), if_neg h]
    exact ref_l0 l (by omega) hw (fun _ => trivial) l.length 0 k (by omega) (by omega) (by rw [List.drop_zero]; exact fun h => h) (by rw [List.drop_zero]; exact fun _ h => h)
theorem ScriptPrints (l : List S30) (hg : good23 l) : ∃ k, inclinelaw21_ScriptPrints.f k l = some true := by
  obtain ⟨K, hK⟩ := shown_is
  have hr : reach = 140737488351232 := rfl
  have hl : l.length ≤ 3518437208781 := by have := hg.1.1; omega
  have hn : ∀ c ∈ l, c.f1.length ≤ 17592186044404 := fun c hc => by have := (hg.2 c hc).2.1.1; omega
  have hw : ∀ c ∈ l, ∀ n ∈ c.f1, u64ok n := fun c hc n hn => u64_good ((hg.2 c hc).2.2 n hn)
  obtain ⟨K2, hK2⟩ := same_self l (by omega) (fun c hc => by have := hn c hc; omega)
  refine ⟨K + 40000 + K2 + l.length + 1, ?_⟩
  unfold inclinelaw21_ScriptPrints.f
  have hc : inclinelaw21_copied.f (K + 40000 + K2 + l.length + 1) l = some l := by
    unfold inclinelaw21_copied.f
    exact copied_l0 l hl hn l.length 0 _ (by omega)
  rw [hK _ (by omega), Option.bind_some, if_pos rfl, hc, Option.bind_some, print_is l hw _ (by omega), Option.bind_some, refPrint_is l hw _ (by omega), Option.bind_some, prGo_T, if_pos rfl, if_pos rfl, hK2 _ (by omega), Option.bind_some]
end Pure
theorem Walks.ScriptPrints {w : World} (hT : Tabs w) (A0 : Option Addr) (c0 : Nat) (l0 : List S30) (hC0 : Kd.C k30 w A0 l0.length l0) (hl0 : l0.length ≤ c0) (hg0 : good23 l0) :
    Calls Tryd.prog 4 #[.slice A0 l0.length c0] w fun e w' => e = .returned (.bool true) ∧ Below w.heap.size w w' := by
  obtain ⟨k, hk⟩ := Pure.ScriptPrints l0 hg0
  exact inclinelaw21_ScriptPrints.calls k A0 c0 l0 true w hC0 hl0 hT hk
end Go.Proofs.YtlfoaaeelcmhiaaDoor
end

section
/- The row of ScriptPrints: for every input the law answers true, and each argument reads as it did. Out of its walk (Walks.ScriptPrints). -/
namespace Go.Proofs.YtlfoaaeelcmhiaaDoor.rowScriptPrints
open Go.ChangeShapes Go.WideShapes Go.ChangeAt Go.RowKit Go.Proofs.YtlfoaaeelcmhiaaDoor.Reading
open Go.ChangeMaps (open_string shut_string)
set_option linter.unusedVariables false
theorem own : ownKnob Tryd.prog.godebug = none := by kernel_rfl
theorem laidOut : laidOutB Tryd.prog = true := by kernel_rfl
set_option maxRecDepth 100000 in
theorem contract (H : Type) (enc : TypeId × Value → H) (W : World) (base : Nat) (args : Array Value) (ds gs : List (DataW H)) (before : List MemPlace)
    (hval0 : ∀ (j : Nat) t v, Tryd.f4.params[j]? = some t → args[j]? = some v → Value.okWide Tryd.prog W .any base t v)
    (hW : DataW.Whole enc Tryd.prog Tryd.f4.params.toList Rows.scriptPrintsSpec.vars false W args.toList ds gs before) (hL : laidMetH Tryd.prog Rows.scriptPrintsRow.laid W)
    (hsz0 : (DataW.weightsEach Tryd.prog (Tryd.f4.params.toList ++ Rows.scriptPrintsSpec.plain.varTypes Tryd.prog) (ds ++ gs)).all (· ≤ reachBytes) = true) :
    Calls Tryd.prog 4 args W fun e W' => ∃ v, e = .returned v ∧ Rows.scriptPrintsSpec.post enc Tryd.prog Tryd.f4 false true false false W args v W' := by
  have hval := hval0
  have hsz := hsz0
  have hW' := hW
  obtain ⟨p, q, hA0, hV, rfl, hfz, hnd⟩ := hW
  have hA : DataW.TrodAll enc Tryd.prog W 0 (fun _ => true) true Tryd.f4.params.toList args.toList ds p := hA0
  rw [Tryd.params4] at hA hval hsz
  obtain ⟨v0, vs0, d0, ds0, p0, q0, hargs, rfl, rfl, h0, r0⟩ := trodAll_cons hA
  obtain ⟨rfl, rfl, rfl⟩ := trodAll_nil r0
  obtain rfl : args = #[v0] := by cases args; simp_all
  obtain ⟨rfl, rfl⟩ := trodVars_none hV
  have hwt := weights_at hsz
  have k0 := h0
  have lt0 : ∀ x ∈ p0, x.block < W.heap.size := by obtain ⟨m, hm⟩ := k0; exact DataW.trod_lt m _ _ _ hm
  have wt0 : ∀ n ∈ DataW.weights Tryd.prog 23 d0, n ≤ reach := fun n hn => hwt n (by simp only [List.cons_append, List.nil_append, List.append_nil, DataW.weightsEach, List.mem_append]; first | exact hn | exact (.inl hn) | exact hn)
  obtain ⟨A0, c0, l0, rfl, hl0, hC0, hg0, hb0⟩ := slice_top (okWide_slice' Tryd.underlying23 (hval 0 23 v0 rfl rfl)) (open23 enc W 0 (fun _ => true) true) h0 wt0
  clear hA0 hval0 hsz0 hsz
  refine (Walks.ScriptPrints (tabs_of hL) A0 c0 l0 hC0 hl0 hg0).mono fun e W' ⟨he, bel⟩ => ?_
  subst he
  exact ⟨_, rfl, _, _, _, [], _, [], hW', trodAll_mk1 (shut_bool Tryd.underlying4 _), (trodAll_cons_mk (Below.trod laidOut (by kernel_rfl) (of_decide_eq_true (by kernel_rfl)) k0 bel lt0) trodAll_mk0), rfl, bel.frame _, fun h => by cases h⟩
set_option maxRecDepth 100000 in
theorem lifted (os : Os) (started : os.Started) (H : Type) (enc : TypeId × Value → H) (F : Stop.Interp) :
    ReturnsInHanded {} Tryd.checked os 4 .any ((OpenSpec.ofChange Rows.scriptPrintsSpec).preRow enc Tryd.prog Tryd.f4 Rows.scriptPrintsRow.domain false Rows.scriptPrintsRow.laid) (((OpenSpec.ofChange Rows.scriptPrintsSpec).at F).post enc Tryd.prog Tryd.f4 false true false false) := by
  obtain ⟨places, hx⟩ : ∃ places, DataW.whole enc Tryd.prog ((laidWorld os).forCall (fun _ _ => 0) ⟨#[], #[.slice none 0 0], []⟩).memory Tryd.f4.params.toList Rows.scriptPrintsSpec.vars false (#[.slice none 0 0] : Array Value).toList 8 = some ([.nil], [], places) := ⟨[], by kernel_rfl⟩
  refine returnsInHanded_of_row (C := Tryd.checked) (s := (OpenSpec.ofChange Rows.scriptPrintsSpec)) own started (by kernel_rfl) Tryd.func4
    (witness_row_at (enc := enc) (C := Tryd.checked) false (laidWorld os) #[.slice none 0 0] rfl (by kernel_rfl) (by kernel_rfl) (by kernel_rfl)
      (OpenSpec.preRow_of_cond 8 hx (by kernel_rfl) (fun k hk => by cases hk) (by kernel_rfl) (laid_met os _))) ?_
  intro W base args ds gs before hval hW _ hcond hsz hL _ _
  exact contract H enc W base args ds gs before hval hW hL hsz
theorem over : Rows.scriptPrintsRow.holds Tryd.pinned (OpenSpec.ofChange Rows.scriptPrintsSpec) :=
  OpenClaim.holds_of_cond 4 Tryd.f4 rfl rfl rfl rfl rfl rfl rfl ⟨rfl, rfl, rfl, rfl, rfl⟩ rfl rfl rfl rfl rfl (by kernel_rfl) Tryd.func4 (by kernel_rfl)
    (of_decide_eq_true (by kernel_rfl)) (by unfold Func.isWrapper; first | (rw [if_pos (by decide +kernel)]; kernel_rfl) | (rw [if_neg (by decide +kernel)]; exact ⟨rfl, rfl⟩))
    (fun os started H enc _ F => by rw [OpenClaim.pre_eq_preRow]; exact lifted os started H enc F)
theorem plain (f : FuncId) (fn : Func) (hf : Tryd.pinned.checked.prog.funcNamed "incline/inclinelaw21.ScriptPrints" = some f) (hfn : Tryd.pinned.checked.prog.funcs[f]? = some fn) :
    false = Tryd.pinned.checked.prog.looks [] ∧ ∀ (j : Nat) t, fn.params[j]? = some t → Tryd.pinned.checked.prog.wantsStandIn t = false := by
  obtain rfl : f = 4 := Option.some.inj ((show Tryd.prog.funcNamed "incline/inclinelaw21.ScriptPrints" = some 4 by kernel_rfl).symm.trans hf) |>.symm
  obtain rfl : fn = Tryd.f4 := (Option.some.inj (Tryd.func4.symm.trans hfn)).symm
  refine ⟨by kernel_rfl, fun j t ht => ?_⟩
  rw [Tryd.params4] at ht
  have hm : t ∈ [23] := by simpa using Array.mem_of_getElem? ht
  have hall : ([23].all fun u => !Tryd.prog.wantsStandIn u) = true := by kernel_rfl
  exact (show Tryd.prog.wantsStandIn t = false by simpa using List.all_eq_true.1 hall t hm)
end Go.Proofs.YtlfoaaeelcmhiaaDoor.rowScriptPrints
namespace Go.Proofs.YtlfoaaeelcmhiaaDoor
/-- The card. -/
theorem scriptPrints_holds : Rows.ScriptPrintsCardSaid :=
  Claim7.holds_tied_plain_at .later [] _ _ _ _ rowScriptPrints.over (fun _ h => by cases h) (by kernel_rfl) (fun _ h => by cases h) scriptPrints_row_tie rfl ⟨rfl, rfl⟩ (by kernel_rfl) rfl rowScriptPrints.plain (by kernel_rfl)
#print axioms scriptPrints_holds
end Go.Proofs.YtlfoaaeelcmhiaaDoor
end
