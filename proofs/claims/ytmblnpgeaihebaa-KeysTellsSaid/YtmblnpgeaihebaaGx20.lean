-- Written by a program of this session (wip/gprint.py: the kit's print, with contracts proved by hand)
import Derived.Test.YtmblnpgeaihebaaGx0
namespace Go.Proofs.Ytmblnpgeaihebaa.G
open Go.RowKit Go.Proofs.YtmblnpgeaihebaaW.PrintWords Go.Proofs.YtmblnpgeaihebaaW.PrintLast Go.Proofs.YtmblnpgeaihebaaW.PrintMore
attribute [local go_sem] max2_int min2_int max_two min_two max_three min_three max_four min_four   -- for this text's walks alone
set_option linter.unusedVariables false
set_option linter.unusedSimpArgs false

/-! ### inclineref03_Check: function 13 -/
mutual
def inclineref03_Check.l0 : Nat → List (S35) → Int → Option (Int)
  | 0, _, _ => none
  | k + 1, x0, x3 => if x3 < (x0.length : Int) then (if x3 > 0 then (if 0 ≤ x3 then (if 0 ≤ (wrap64 (x3 - 1)) then (if (wrap64 (x3 - 1)) < (x0.length : Int) then (inclineref03_Check.j1 k x0 x3 (decide (((rd_T35 x0 x3).f0) ≤ ((rd_T35 x0 (wrap64 (x3 - 1))).f0)))) else (none)) else (none)) else (none)) else (inclineref03_Check.j1 k x0 x3 false)) else (some 0)
def inclineref03_Check.j1 : Nat → List (S35) → Int → Bool → Option (Int)
  | 0, _, _, _ => none
  | k + 1, x0, x3, x25 => if x25 = true then (some 30) else (if 0 ≤ x3 then (if x3 < (x0.length : Int) then (if (rd_T35 x0 x3).f2 = true then (if ((rd_T35 x0 x3).f1) = 0 then (inclineref03_Check.l0 k x0 (wrap64 (x3 + 1))) else (some 31)) else (inclineref03_Check.l0 k x0 (wrap64 (x3 + 1)))) else (none)) else (none))
end
def inclineref03_Check.f (k : Nat) (l0 : List (S35)) : Option (Int) := inclineref03_Check.l0 k l0 0
theorem inclineref03_Check.mono_l : ∀ k, (∀ y0 y1, LeO (inclineref03_Check.l0 k y0 y1) (inclineref03_Check.l0 (k + 1) y0 y1)) ∧ (∀ y0 y1 y2, LeO (inclineref03_Check.j1 k y0 y1 y2) (inclineref03_Check.j1 (k + 1) y0 y1 y2))
  | 0 => ⟨fun _ _ r h => by simp [inclineref03_Check.l0] at h, fun _ _ _ r h => by simp [inclineref03_Check.j1] at h⟩
  | k + 1 => by
    obtain ⟨ih0, ih1⟩ := inclineref03_Check.mono_l k
    refine ⟨?_, ?_⟩
    · intro y0 y1
      unfold inclineref03_Check.l0
      repeat' first
      | (with_reducible exact ih0 _ _)
      | (with_reducible exact ih1 _ _ _)
      | (with_reducible exact LeO.refl _)
      | (with_reducible exact LeO.none _)
      | (with_reducible refine LeO.ite ?_ ?_)
      | (with_reducible refine LeO.bind ?_ (fun _ => ?_))
      | exact ih0 _ _
      | exact ih1 _ _ _
      | exact LeO.none _
      | refine LeO.ite ?_ ?_
      | refine LeO.bind ?_ (fun _ => ?_)
    · intro y0 y1 y2
      unfold inclineref03_Check.j1
      repeat' first
      | (with_reducible exact ih0 _ _)
      | (with_reducible exact ih1 _ _ _)
      | (with_reducible exact LeO.refl _)
      | (with_reducible exact LeO.none _)
      | (with_reducible refine LeO.ite ?_ ?_)
      | (with_reducible refine LeO.bind ?_ (fun _ => ?_))
      | exact ih0 _ _
      | exact ih1 _ _ _
      | exact LeO.none _
      | refine LeO.ite ?_ ?_
      | refine LeO.bind ?_ (fun _ => ?_)
theorem inclineref03_Check.mono : ∀ a0 k, LeO (inclineref03_Check.f k a0) (inclineref03_Check.f (k + 1) a0) := by
  intro a0 k
  obtain ⟨ih0, ih1⟩ := inclineref03_Check.mono_l k
  unfold inclineref03_Check.f
  repeat' first
      | (with_reducible exact ih0 _ _)
      | (with_reducible exact ih1 _ _ _)
      | (with_reducible exact LeO.refl _)
      | (with_reducible exact LeO.none _)
      | (with_reducible refine LeO.ite ?_ ?_)
      | (with_reducible refine LeO.bind ?_ (fun _ => ?_))
      | exact ih0 _ _
      | exact ih1 _ _ _
      | exact LeO.none _
      | refine LeO.ite ?_ ?_
      | refine LeO.bind ?_ (fun _ => ?_)
set_option maxHeartbeats 8000000 in
set_option maxRecDepth 100000 in
theorem inclineref03_Check.calls (k : Nat) (A0 : Option Addr) (c0 : Nat) (l0 : List (S35)) (r : Int) (w : World) (hr0 : Kd.C k35 w A0 l0.length l0) (hc0 : l0.length ≤ c0) (h : inclineref03_Check.f k l0 = some r) :
    Calls Try.prog 13 #[.slice A0 l0.length c0] w fun e w' => e = .returned (.int .i64 r) ∧ Drawn0 w w' := by
  have HR0 := Aside0.mk hr0
  have HC0 := Aside0.mk hc0
  clear hr0 hc0
  have H : (inclineref03_Check.l0 k l0 0) = some r := h
  clear h
  have H' := Aside0.mk H
  clear H
  go_enter Try.func13, Try.ntmps13
  go_wp2
  repeat (go_quiet (fail); try go_wp2)
  go_loopg [3] k (fun kq v3 w' => ∃ (x3_1 : Int), v3 = .int .i64 x3_1 ∧ Aside0 (inclineref03_Check.l0 kq l0 x3_1 = some r) ∧ Aside0 (kq ≤ k) ∧ Drawn0 w w')
  case atStart => exact ⟨(0), (by first | rfl | (simp; done) | (simp [*]; done)), H', ⟨Nat.le_refl _⟩, by repeat (first | exact Drawn0.refl _ | apply Drawn0.step)⟩
  case round =>
    clear H'
    try clear c1
    obtain ⟨x3_1, rfl, HA, HK1, ⟨m1, rfl⟩⟩ := hrel
    cases gk with
    | zero => exact absurd HA.out (by simp [inclineref03_Check.l0])
    | succ k1 =>
      have H := HA.out
      clear HA
      simp only [inclineref03_Check.l0] at H
      by_cases c2 : x3_1 < (l0.length : Int)
      · rw [if_pos c2] at H
        have c2b0 : decide (x3_1 < (l0.length : Int)) = true := decide_eq_true c2
        clear c2
        have HC3 := Aside0.mk H
        clear H
        go_upto_region 4 with (fail)
        repeat (go_quiet (fail); go_upto_region 4 with (fail))
        go_cut [25] (fun v25 wc => ∃ (kq : Nat) (x25_2 : Bool), v25 = .bool x25_2 ∧ Aside0 (inclineref03_Check.j1 kq l0 x3_1 x25_2 = some r) ∧ Aside0 (kq ≤ k1) ∧ Drawn0 w wc)
        case first =>
          have H := HC3.out
          clear HC3
          by_cases c4 : x3_1 > 0
          · rw [if_pos c4] at H
            have c4b0 : decide (0 < x3_1) = true := decide_eq_true c4
            clear c4
            (first | rw [c4b0] | (simp only [i64_w, i32_w]; rw [c4b0]) | skip)
            by_cases c5 : 0 ≤ x3_1
            · rw [if_pos c5] at H
              have c5b0 : decide (0 ≤ x3_1) = true := decide_eq_true c5
              clear c5
              obtain ⟨ji6, hji6⟩ : ∃ j_ : Int, (wrap64 (x3_1 - 1)) = j_ := ⟨_, rfl⟩
              replace H : (if 0 ≤ (ji6) then (if (ji6) < (l0.length : Int) then (inclineref03_Check.j1 k1 l0 x3_1 (decide (((rd_T35 l0 x3_1).f0) ≤ ((rd_T35 l0 (ji6)).f0)))) else (none)) else (none)) = some r := by first | (rw [hji6] at H; exact H) | (simp only [hji6] at H ⊢; exact H)
              have hji6w : (IntKind.i64.wrap (x3_1 - 1)) = ji6 := (i64_w _).trans hji6
              by_cases c7 : 0 ≤ (ji6)
              · rw [if_pos c7] at H
                have c7b0 : decide (0 ≤ (ji6)) = true := decide_eq_true c7
                clear c7
                by_cases c8 : (ji6) < (l0.length : Int)
                · rw [if_pos c8] at H
                  have c8b0 : decide ((ji6) < (l0.length : Int)) = true := decide_eq_true c8
                  clear c8
                  have H' := Aside0.mk H
                  clear H
                  have p266 : 0 ≤ (x3_1 : Int) := of_decide_eq_true (by first | (with_reducible assumption) | assumption)
                  have q266 : x3_1 < (l0.length : Int) := of_decide_eq_true (by first | (with_reducible assumption) | assumption)
                  obtain ⟨ad266, e266, hx266_0, hx266_1, hx266_2⟩ := at_T35 HR0.out x3_1 p266 q266
                  cases e266
                  replace p266 := eq_true p266
                  replace q266 := eq_true q266
                  have p267 : 0 ≤ ((ji6) : Int) := of_decide_eq_true (by first | (with_reducible assumption) | assumption)
                  have q267 : (ji6) < (l0.length : Int) := of_decide_eq_true (by first | (with_reducible assumption) | assumption)
                  obtain ⟨ad267, e267, hx267_0, hx267_1, hx267_2⟩ := at_T35 HR0.out (ji6) p267 q267
                  obtain rfl : ad266 = ad267 := (by injection e267)
                  replace p267 := eq_true p267
                  replace q267 := eq_true q267
                  go_wp2
                  repeat (go_quiet (fail); try go_wp2)
                  go_meet
                  case rel => exact ⟨_, (decide (((rd_T35 l0 x3_1).f0) ≤ ((rd_T35 l0 (ji6)).f0))), (by first | rfl | (simp; done) | (simp only [← hji6] <;> (first | rfl | simp)) | (simp [*]; done)), H', ⟨by have := HK1.out; first | omega | exact Nat.le_refl _⟩, by repeat (first | exact Drawn0.refl _ | apply Drawn0.step)⟩
                · rw [if_neg c8] at H
                  exact absurd H (by simp)
              · rw [if_neg c7] at H
                exact absurd H (by simp)
            · rw [if_neg c5] at H
              exact absurd H (by simp)
          · rw [if_neg c4] at H
            have c4b0 : decide (0 < x3_1) = false := decide_eq_false c4
            clear c4
            (first | rw [c4b0] | (simp only [i64_w, i32_w]; rw [c4b0]) | skip)
            have H' := Aside0.mk H
            clear H
            go_wp2
            repeat (go_quiet (fail); try go_wp2)
            go_meet
            case rel => exact ⟨_, (false), (by first | rfl | (simp; done) | (simp [*]; done)), H', ⟨by have := HK1.out; first | omega | exact Nat.le_refl _⟩, by repeat (first | exact Drawn0.refl _ | apply Drawn0.step)⟩
        case rest =>
          clear HC3
          try clear c1
          try clear c2
          try clear c2b0
          try clear p2
          try clear q2
          try clear hx2
          try clear c4
          try clear c4b0
          try clear c5
          try clear c5b0
          try clear p6
          try clear c7
          try clear c7b0
          try clear c8
          try clear c8b0
          try clear hx266_0
          try clear hx266_1
          try clear hx266_2
          try clear hx267_0
          try clear hx267_1
          try clear hx267_2
          try clear p266
          try clear p267
          try clear q266
          try clear q267
          obtain ⟨kq, x25_2, rfl, HA, HJ2, ⟨mc2, rfl⟩⟩ := hcut
          cases kq with
          | zero => exact absurd HA.out (by simp [inclineref03_Check.j1])
          | succ kj2 =>
            have H := HA.out
            clear HA
            simp only [inclineref03_Check.j1] at H
            by_cases c9 : x25_2 = true
            · subst c9
              have H1 : (some 30) = some r := by rw [if_pos rfl] at H; exact H
              clear H
              have H := H1
              clear H1
              obtain rfl := Option.some.inj H
              go_wp2
              repeat (go_quiet (fail); try go_wp2)
              go_ret
              exact ⟨by first | rfl | (simp; done) | (simp [*]; done), by repeat (first | exact Drawn0.refl _ | apply Drawn0.step)⟩
            · replace c9 := Bool.eq_false_iff.mpr c9
              subst c9
              have H1 : (if 0 ≤ x3_1 then (if x3_1 < (l0.length : Int) then (if (rd_T35 l0 x3_1).f2 = true then (if ((rd_T35 l0 x3_1).f1) = 0 then (inclineref03_Check.l0 kj2 l0 (wrap64 (x3_1 + 1))) else (some 31)) else (inclineref03_Check.l0 kj2 l0 (wrap64 (x3_1 + 1)))) else (none)) else (none)) = some r := by rw [if_neg (show ¬ (false = true) by decide)] at H; exact H
              clear H
              have H := H1
              clear H1
              by_cases c10 : 0 ≤ x3_1
              · rw [if_pos c10] at H
                have c10b0 : decide (0 ≤ x3_1) = true := decide_eq_true c10
                clear c10
                by_cases c11 : x3_1 < (l0.length : Int)
                · rw [if_pos c11] at H
                  have c11b0 : decide (x3_1 < (l0.length : Int)) = true := decide_eq_true c11
                  clear c11
                  obtain ⟨bq12, hbq12⟩ : ∃ b_ : Bool, b_ = ((rd_T35 l0 x3_1).f2) := ⟨_, rfl⟩
                  replace H : (if bq12 = true then (if ((rd_T35 l0 x3_1).f1) = 0 then (inclineref03_Check.l0 kj2 l0 (wrap64 (x3_1 + 1))) else (some 31)) else (inclineref03_Check.l0 kj2 l0 (wrap64 (x3_1 + 1)))) = some r := by rw [← hbq12] at H; exact H
                  have Nbq12 := Aside0.mk hbq12
                  clear hbq12
                  by_cases c13 : bq12 = true
                  · subst c13
                    have H1 : (if ((rd_T35 l0 x3_1).f1) = 0 then (inclineref03_Check.l0 kj2 l0 (wrap64 (x3_1 + 1))) else (some 31)) = some r := by rw [if_pos rfl] at H; exact H
                    clear H
                    have H := H1
                    clear H1
                    by_cases c14 : ((rd_T35 l0 x3_1).f1) = 0
                    · rw [if_pos c14] at H
                      have c14b0 : (((rd_T35 l0 x3_1).f1) == 0) = true := beq_iff_eq.mpr c14
                      have c14b1 : (((rd_T35 l0 x3_1).f1) != 0) = false := bne_eq_false_iff_eq.mpr c14
                      clear c14
                      have H' := Aside0.mk H
                      clear H
                      have p268 : 0 ≤ (x3_1 : Int) := of_decide_eq_true (by first | (with_reducible assumption) | assumption)
                      have q268 : x3_1 < (l0.length : Int) := of_decide_eq_true (by first | (with_reducible assumption) | assumption)
                      obtain ⟨ad268, e268, hx268_0, hx268_1, hx268_2⟩ := at_T35 HR0.out x3_1 p268 q268
                      (try rw [← Nbq12.out] at hx268_2)
                      cases e268
                      replace p268 := eq_true p268
                      replace q268 := eq_true q268
                      have p269 : 0 ≤ (x3_1 : Int) := of_decide_eq_true (by first | (with_reducible assumption) | assumption)
                      have q269 : x3_1 < (l0.length : Int) := of_decide_eq_true (by first | (with_reducible assumption) | assumption)
                      obtain ⟨ad269, e269, hx269_0, hx269_1, hx269_2⟩ := at_T35 HR0.out x3_1 p269 q269
                      (try rw [← Nbq12.out] at hx269_2)
                      obtain rfl : ad268 = ad269 := (by injection e269)
                      replace p269 := eq_true p269
                      replace q269 := eq_true q269
                      go_wp2
                      repeat (go_quiet (fail); try go_wp2)
                      go_roundg kj2
                      case measure => have := HK1.out; have := HJ2.out; omega
                      case rel => exact ⟨(wrap64 (x3_1 + 1)), (by first | rfl | (simp; done) | (simp [*]; done)), H', ⟨by have := HK1.out; have := HJ2.out; omega⟩, by repeat (first | exact Drawn0.refl _ | apply Drawn0.step)⟩
                    · rw [if_neg c14] at H
                      have c14b0 : (((rd_T35 l0 x3_1).f1) == 0) = false := beq_eq_false_iff_ne.mpr c14
                      have c14b1 : (((rd_T35 l0 x3_1).f1) != 0) = true := bne_iff_ne.mpr c14
                      obtain rfl := Option.some.inj H
                      have p268 : 0 ≤ (x3_1 : Int) := of_decide_eq_true (by first | (with_reducible assumption) | assumption)
                      have q268 : x3_1 < (l0.length : Int) := of_decide_eq_true (by first | (with_reducible assumption) | assumption)
                      obtain ⟨ad268, e268, hx268_0, hx268_1, hx268_2⟩ := at_T35 HR0.out x3_1 p268 q268
                      (try rw [← Nbq12.out] at hx268_2)
                      cases e268
                      replace p268 := eq_true p268
                      replace q268 := eq_true q268
                      have p269 : 0 ≤ (x3_1 : Int) := of_decide_eq_true (by first | (with_reducible assumption) | assumption)
                      have q269 : x3_1 < (l0.length : Int) := of_decide_eq_true (by first | (with_reducible assumption) | assumption)
                      obtain ⟨ad269, e269, hx269_0, hx269_1, hx269_2⟩ := at_T35 HR0.out x3_1 p269 q269
                      (try rw [← Nbq12.out] at hx269_2)
                      obtain rfl : ad268 = ad269 := (by injection e269)
                      replace p269 := eq_true p269
                      replace q269 := eq_true q269
                      go_wp2
                      repeat (go_quiet (fail); try go_wp2)
                      go_ret
                      exact ⟨by first | rfl | (simp; done) | (simp [*]; done), by repeat (first | exact Drawn0.refl _ | apply Drawn0.step)⟩
                  · replace c13 := Bool.eq_false_iff.mpr c13
                    subst c13
                    have H1 : (inclineref03_Check.l0 kj2 l0 (wrap64 (x3_1 + 1))) = some r := by rw [if_neg (show ¬ (false = true) by decide)] at H; exact H
                    clear H
                    have H := H1
                    clear H1
                    have H' := Aside0.mk H
                    clear H
                    have p268 : 0 ≤ (x3_1 : Int) := of_decide_eq_true (by first | (with_reducible assumption) | assumption)
                    have q268 : x3_1 < (l0.length : Int) := of_decide_eq_true (by first | (with_reducible assumption) | assumption)
                    obtain ⟨ad268, e268, hx268_0, hx268_1, hx268_2⟩ := at_T35 HR0.out x3_1 p268 q268
                    (try rw [← Nbq12.out] at hx268_2)
                    cases e268
                    replace p268 := eq_true p268
                    replace q268 := eq_true q268
                    go_wp2
                    repeat (go_quiet (fail); try go_wp2)
                    go_roundg kj2
                    case measure => have := HK1.out; have := HJ2.out; omega
                    case rel => exact ⟨(wrap64 (x3_1 + 1)), (by first | rfl | (simp; done) | (simp [*]; done)), H', ⟨by have := HK1.out; have := HJ2.out; omega⟩, by repeat (first | exact Drawn0.refl _ | apply Drawn0.step)⟩
                · rw [if_neg c11] at H
                  exact absurd H (by simp)
              · rw [if_neg c10] at H
                exact absurd H (by simp)
      · rw [if_neg c2] at H
        have c2b0 : decide (x3_1 < (l0.length : Int)) = false := decide_eq_false c2
        clear c2
        obtain rfl := Option.some.inj H
        go_wp2
        repeat (go_quiet (fail); try go_wp2)
        go_ret
        exact ⟨by first | rfl | (simp; done) | (simp [*]; done), by repeat (first | exact Drawn0.refl _ | apply Drawn0.step)⟩

end Go.Proofs.Ytmblnpgeaihebaa.G
