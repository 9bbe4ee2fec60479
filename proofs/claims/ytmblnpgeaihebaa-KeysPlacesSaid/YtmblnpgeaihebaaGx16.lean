-- Written by a program of this session (wip/gprint.py: the kit's print, with contracts proved by hand)
import Derived.Test.YtmblnpgeaihebaaGx0
import Derived.Test.YtmblnpgeaihebaaGx10
import Derived.Test.YtmblnpgeaihebaaGx11
import Derived.Test.YtmblnpgeaihebaaGiven
namespace Go.Proofs.Ytmblnpgeaihebaa.G
open Go.RowKit Go.Proofs.YtmblnpgeaihebaaW.PrintWords Go.Proofs.YtmblnpgeaihebaaW.PrintLast Go.Proofs.YtmblnpgeaihebaaW.PrintMore
attribute [local go_sem] max2_int min2_int max_two min_two max_three min_three max_four min_four   -- for this text's walks alone
set_option linter.unusedVariables false
set_option linter.unusedSimpArgs false

/-! ### inclinelaw03_KeysPlaces: function 6 -/
mutual
def inclinelaw03_KeysPlaces.j0 : Nat → List Int → Int → Int → Bool → Int → Bool → Option (Bool)
  | 0, _, _, _, _, _, _ => none
  | k + 1, x0, x1, x2, x7, x8, x59 => if x59 = true then (none) else (inclinelaw03_KeysPlaces.l0 k x0 x1 x2 x7 x8 0)
def inclinelaw03_KeysPlaces.l0 : Nat → List Int → Int → Int → Bool → Int → Int → Option (Bool)
  | 0, _, _, _, _, _, _ => none
  | k + 1, x0, x1, x2, x7, x8, x10 => if x10 < (x0.length : Int) then (if 0 ≤ x10 then (if ((decide ((rd x0 x10) < x1)) != (decide (x10 < x8))) = true then (none) else ((keys_Rank.f k x0 (rd x0 x10)).bind fun bt206 => (if bt206.1 = x10 then (if bt206.2 = true then (inclinelaw03_KeysPlaces.l0 k x0 x1 x2 x7 x8 (wrap64 (x10 + 1))) else (none)) else (none)))) else (none)) else ((keys_Rank.f k x0 x2).bind fun bt202 => (if x7 = true then (if x2 > x1 then (if x2 < x1 then (some true) else (some (decide (bt202.1 ≥ x8)))) else (if bt202.1 ≤ x8 then (if x2 < x1 then (some true) else (some (decide (bt202.1 ≥ x8)))) else (none))) else (none)))
end
def inclinelaw03_KeysPlaces.f (k : Nat) (l0 : List Int) (a1 : Int) (a2 : Int) : Option (Bool) := (inclinelaw03_shown.f k).bind fun t197 => (if t197 = true then ((keys_Rank.f k l0 a1).bind fun bt198 => ((keys_Rising.f l0).bind fun t200 => (if t200 = true then (if bt198.1 < 0 then (inclinelaw03_KeysPlaces.j0 k l0 a1 a2 t197 bt198.1 true) else (if bt198.1 > (l0.length : Int) then (inclinelaw03_KeysPlaces.j0 k l0 a1 a2 t197 bt198.1 true) else (if bt198.1 < (l0.length : Int) then (if 0 ≤ bt198.1 then (inclinelaw03_KeysPlaces.j0 k l0 a1 a2 t197 bt198.1 (bt198.2 != ((rd l0 bt198.1) == a1))) else (none)) else (inclinelaw03_KeysPlaces.j0 k l0 a1 a2 t197 bt198.1 (bt198.2 != false))))) else (if bt198.1 = (-1) then (some (!bt198.2)) else (none))))) else (none))
theorem inclinelaw03_KeysPlaces.mono_l : ∀ k, (∀ y0 y1 y2 y3 y4 y5, LeO (inclinelaw03_KeysPlaces.j0 k y0 y1 y2 y3 y4 y5) (inclinelaw03_KeysPlaces.j0 (k + 1) y0 y1 y2 y3 y4 y5)) ∧ (∀ y0 y1 y2 y3 y4 y5, LeO (inclinelaw03_KeysPlaces.l0 k y0 y1 y2 y3 y4 y5) (inclinelaw03_KeysPlaces.l0 (k + 1) y0 y1 y2 y3 y4 y5))
  | 0 => ⟨fun _ _ _ _ _ _ r h => by simp [inclinelaw03_KeysPlaces.j0] at h, fun _ _ _ _ _ _ r h => by simp [inclinelaw03_KeysPlaces.l0] at h⟩
  | k + 1 => by
    obtain ⟨ih0, ih1⟩ := inclinelaw03_KeysPlaces.mono_l k
    refine ⟨?_, ?_⟩
    · intro y0 y1 y2 y3 y4 y5
      unfold inclinelaw03_KeysPlaces.j0
      repeat' first
      | (with_reducible exact ih0 _ _ _ _ _ _)
      | (with_reducible exact ih1 _ _ _ _ _ _)
      | (with_reducible exact inclinelaw03_shown.mono _)
      | (with_reducible exact keys_Rank.mono _ _ _)
      | (with_reducible exact LeO.refl _)
      | (with_reducible exact LeO.none _)
      | (with_reducible refine LeO.ite ?_ ?_)
      | (with_reducible refine LeO.bind ?_ (fun _ => ?_))
      | exact ih0 _ _ _ _ _ _
      | exact ih1 _ _ _ _ _ _
      | exact inclinelaw03_shown.mono _
      | exact keys_Rank.mono _ _ _
      | exact LeO.none _
      | refine LeO.ite ?_ ?_
      | refine LeO.bind ?_ (fun _ => ?_)
    · intro y0 y1 y2 y3 y4 y5
      unfold inclinelaw03_KeysPlaces.l0
      repeat' first
      | (with_reducible exact ih0 _ _ _ _ _ _)
      | (with_reducible exact ih1 _ _ _ _ _ _)
      | (with_reducible exact inclinelaw03_shown.mono _)
      | (with_reducible exact keys_Rank.mono _ _ _)
      | (with_reducible exact LeO.refl _)
      | (with_reducible exact LeO.none _)
      | (with_reducible refine LeO.ite ?_ ?_)
      | (with_reducible refine LeO.bind ?_ (fun _ => ?_))
      | exact ih0 _ _ _ _ _ _
      | exact ih1 _ _ _ _ _ _
      | exact inclinelaw03_shown.mono _
      | exact keys_Rank.mono _ _ _
      | exact LeO.none _
      | refine LeO.ite ?_ ?_
      | refine LeO.bind ?_ (fun _ => ?_)
theorem inclinelaw03_KeysPlaces.mono : ∀ a0 a1 a2 k, LeO (inclinelaw03_KeysPlaces.f k a0 a1 a2) (inclinelaw03_KeysPlaces.f (k + 1) a0 a1 a2) := by
  intro a0 a1 a2 k
  obtain ⟨ih0, ih1⟩ := inclinelaw03_KeysPlaces.mono_l k
  unfold inclinelaw03_KeysPlaces.f
  repeat' first
      | (with_reducible exact ih0 _ _ _ _ _ _)
      | (with_reducible exact ih1 _ _ _ _ _ _)
      | (with_reducible exact inclinelaw03_shown.mono _)
      | (with_reducible exact keys_Rank.mono _ _ _)
      | (with_reducible exact LeO.refl _)
      | (with_reducible exact LeO.none _)
      | (with_reducible refine LeO.ite ?_ ?_)
      | (with_reducible refine LeO.bind ?_ (fun _ => ?_))
      | exact ih0 _ _ _ _ _ _
      | exact ih1 _ _ _ _ _ _
      | exact inclinelaw03_shown.mono _
      | exact keys_Rank.mono _ _ _
      | exact LeO.none _
      | refine LeO.ite ?_ ?_
      | refine LeO.bind ?_ (fun _ => ?_)
set_option maxHeartbeats 8000000 in
set_option maxRecDepth 100000 in
theorem inclinelaw03_KeysPlaces.calls (k : Nat) (A0 : Option Addr) (c0 : Nat) (l0 : List Int) (a1 : Int) (a2 : Int) (r : Bool) (w : World) (hr0 : Kd.C (Kd.int .u64) w A0 l0.length l0) (hc0 : l0.length ≤ c0) (h : inclinelaw03_KeysPlaces.f k l0 a1 a2 = some r) :
    Calls Try.prog 6 #[.slice A0 l0.length c0, .int .u64 a1, .int .u64 a2] w fun e w' => e = .returned (.bool r) ∧ Below w.heap.size w w' := by
  have HR0 := Aside0.mk hr0
  have HC0 := Aside0.mk hc0
  clear hr0 hc0
  have HB := Aside0.mk (Below.refl w.heap.size w)
  have H : ((inclinelaw03_shown.f k).bind fun t197 => (if t197 = true then ((keys_Rank.f k l0 a1).bind fun bt198 => ((keys_Rising.f l0).bind fun t200 => (if t200 = true then (if bt198.1 < 0 then (inclinelaw03_KeysPlaces.j0 k l0 a1 a2 t197 bt198.1 true) else (if bt198.1 > (l0.length : Int) then (inclinelaw03_KeysPlaces.j0 k l0 a1 a2 t197 bt198.1 true) else (if bt198.1 < (l0.length : Int) then (if 0 ≤ bt198.1 then (inclinelaw03_KeysPlaces.j0 k l0 a1 a2 t197 bt198.1 (bt198.2 != ((rd l0 bt198.1) == a1))) else (none)) else (inclinelaw03_KeysPlaces.j0 k l0 a1 a2 t197 bt198.1 (bt198.2 != false))))) else (if bt198.1 = (-1) then (some (!bt198.2)) else (none))))) else (none))) = some r := h
  clear h
  replace H := Option.bind_eq_some_iff.mp H
  obtain ⟨t197, A40, H⟩ := H
  replace H : (if t197 = true then ((keys_Rank.f k l0 a1).bind fun bt198 => ((keys_Rising.f l0).bind fun t200 => (if t200 = true then (if bt198.1 < 0 then (inclinelaw03_KeysPlaces.j0 k l0 a1 a2 t197 bt198.1 true) else (if bt198.1 > (l0.length : Int) then (inclinelaw03_KeysPlaces.j0 k l0 a1 a2 t197 bt198.1 true) else (if bt198.1 < (l0.length : Int) then (if 0 ≤ bt198.1 then (inclinelaw03_KeysPlaces.j0 k l0 a1 a2 t197 bt198.1 (bt198.2 != ((rd l0 bt198.1) == a1))) else (none)) else (inclinelaw03_KeysPlaces.j0 k l0 a1 a2 t197 bt198.1 (bt198.2 != false))))) else (if bt198.1 = (-1) then (some (!bt198.2)) else (none))))) else (none)) = some r := H
  have A4 := Aside0.mk A40
  clear A40
  by_cases c5 : t197 = true
  · subst c5
    have H1 : ((keys_Rank.f k l0 a1).bind fun bt198 => ((keys_Rising.f l0).bind fun t200 => (if t200 = true then (if bt198.1 < 0 then (inclinelaw03_KeysPlaces.j0 k l0 a1 a2 true bt198.1 true) else (if bt198.1 > (l0.length : Int) then (inclinelaw03_KeysPlaces.j0 k l0 a1 a2 true bt198.1 true) else (if bt198.1 < (l0.length : Int) then (if 0 ≤ bt198.1 then (inclinelaw03_KeysPlaces.j0 k l0 a1 a2 true bt198.1 (bt198.2 != ((rd l0 bt198.1) == a1))) else (none)) else (inclinelaw03_KeysPlaces.j0 k l0 a1 a2 true bt198.1 (bt198.2 != false))))) else (if bt198.1 = (-1) then (some (!bt198.2)) else (none))))) = some r := by rw [if_pos rfl] at H; exact H
    clear H
    have H := H1
    clear H1
    replace H := Option.bind_eq_some_iff.mp H
    obtain ⟨⟨t198, t199⟩, A60, H⟩ := H
    replace H : ((keys_Rising.f l0).bind fun t200 => (if t200 = true then (if t198 < 0 then (inclinelaw03_KeysPlaces.j0 k l0 a1 a2 true t198 true) else (if t198 > (l0.length : Int) then (inclinelaw03_KeysPlaces.j0 k l0 a1 a2 true t198 true) else (if t198 < (l0.length : Int) then (if 0 ≤ t198 then (inclinelaw03_KeysPlaces.j0 k l0 a1 a2 true t198 (t199 != ((rd l0 t198) == a1))) else (none)) else (inclinelaw03_KeysPlaces.j0 k l0 a1 a2 true t198 (t199 != false))))) else (if t198 = (-1) then (some (!t199)) else (none)))) = some r := H
    have A6 := Aside0.mk A60
    clear A60
    replace H := Option.bind_eq_some_iff.mp H
    obtain ⟨t200, A70, H⟩ := H
    replace H : (if t200 = true then (if t198 < 0 then (inclinelaw03_KeysPlaces.j0 k l0 a1 a2 true t198 true) else (if t198 > (l0.length : Int) then (inclinelaw03_KeysPlaces.j0 k l0 a1 a2 true t198 true) else (if t198 < (l0.length : Int) then (if 0 ≤ t198 then (inclinelaw03_KeysPlaces.j0 k l0 a1 a2 true t198 (t199 != ((rd l0 t198) == a1))) else (none)) else (inclinelaw03_KeysPlaces.j0 k l0 a1 a2 true t198 (t199 != false))))) else (if t198 = (-1) then (some (!t199)) else (none))) = some r := H
    have A7 := Aside0.mk A70
    clear A70
    by_cases c8 : t200 = true
    · subst c8
      have H1 : (if t198 < 0 then (inclinelaw03_KeysPlaces.j0 k l0 a1 a2 true t198 true) else (if t198 > (l0.length : Int) then (inclinelaw03_KeysPlaces.j0 k l0 a1 a2 true t198 true) else (if t198 < (l0.length : Int) then (if 0 ≤ t198 then (inclinelaw03_KeysPlaces.j0 k l0 a1 a2 true t198 (t199 != ((rd l0 t198) == a1))) else (none)) else (inclinelaw03_KeysPlaces.j0 k l0 a1 a2 true t198 (t199 != false))))) = some r := by rw [if_pos rfl] at H; exact H
      clear H
      have H := H1
      clear H1
      have HC9 := Aside0.mk H
      clear H
      go_enter Try.func6, Try.ntmps6
      go_upto_region 7 with (first | ((with_reducible refine gate_callee (f := 8) rfl ?_); refine goesL_ (some 15) rfl rfl Try.func8 (by kernel_rfl) rfl #[] rfl (by (try simp only [List.map_toArray, List.map_cons, List.map_nil]); first | done | rfl | (simp only [List.length_drop, List.length_take]; rfl)) ?_; (with_reducible refine (inclinelaw03_shown.calls k  true _ A4.out).mono ?_); rintro e w10 ⟨rfl, hb⟩; refine ⟨_, rfl, ?_⟩; have n0_ := Aside0.mk (below_step (by repeat (first | (with_reducible first | exact HB.out | apply below_alloc | apply pw_below_drewN | apply below_drew1) | exact HB.out)) hb); clear HB; have HB := n0_; clear n0_; (try clear hb); (try clear hb2); (try clear hk); (try clear hi)) | ((with_reducible refine gate_callee (f := 18) rfl ?_); refine goesL_ (some 21) rfl rfl Try.func18 (by kernel_rfl) rfl #[.slice A0 l0.length c0, .int .u64 a1] rfl (by (try simp only [List.map_toArray, List.map_cons, List.map_nil]); first | done | rfl | (simp only [List.length_drop, List.length_take]; rfl)) ?_; (with_reducible refine (keys_Rank.calls k _ _ l0 a1 t198 t199 _ ?side1 ?side2 A6.out).mono ?_); (case side1 => repeat (first | exact (Kd.C_below HR0.out HB.out) | (with_reducible refine Kd.C_alloc ?_ _) | (with_reducible refine Kd.C_drewN ?_ _) | (with_reducible refine Kd.C_drew ?_))); (case side2 => exact HC0.out); rintro e w' ⟨rfl, ⟨nd, rfl⟩⟩; refine ⟨_, rfl, ?_⟩) | ((with_reducible refine gate_callee (f := 20) rfl ?_); refine goesL_ (some 25) rfl rfl Try.func20 (by kernel_rfl) rfl #[.slice A0 l0.length c0] rfl (by (try simp only [List.map_toArray, List.map_cons, List.map_nil]); first | done | rfl | (simp only [List.length_drop, List.length_take]; rfl)) ?_; (with_reducible refine (keys_Rising.calls _ _ l0 true _ ?side1 ?side2 A7.out).mono ?_); (case side1 => repeat (first | exact (Kd.C_below HR0.out (by repeat (first | (with_reducible first | exact HB.out | apply below_alloc | apply pw_below_drewN | apply below_drew1) | exact HB.out))) | (with_reducible refine Kd.C_alloc ?_ _) | (with_reducible refine Kd.C_drewN ?_ _) | (with_reducible refine Kd.C_drew ?_))); (case side2 => exact HC0.out); rintro e w' ⟨rfl, ⟨nd, rfl⟩⟩; refine ⟨_, rfl, ?_⟩))
      (try simp only [Act.put, List.setIfInBounds_toArray, List.set_cons_zero, List.set_cons_succ])
      go_cut [59] (fun v59 wc => ∃ (kq : Nat) (x59_8 : Bool), v59 = .bool x59_8 ∧ Aside0 (inclinelaw03_KeysPlaces.j0 kq l0 a1 a2 true t198 x59_8 = some r) ∧ Aside0 (kq ≤ k) ∧ Aside0 (Below w.heap.size w wc))
      case first =>
        have H := HC9.out
        clear HC9
        by_cases c11 : t198 < 0
        · rw [if_pos c11] at H
          have c11b0 : decide (t198 < 0) = true := decide_eq_true c11
          clear c11
          (first | rw [c11b0] | (simp only [i64_w, i32_w]; rw [c11b0]) | skip)
          have H' := Aside0.mk H
          clear H
          go_wp2
          go_meet
          case rel => exact ⟨_, (true), (by first | rfl | (simp; done) | (simp [*]; done)), H', ⟨by first | omega | exact Nat.le_refl _⟩, ⟨by repeat (first | (with_reducible first | exact HB.out | apply below_alloc | apply pw_below_drewN | apply below_drew1) | exact HB.out)⟩⟩
        · rw [if_neg c11] at H
          have c11b0 : decide (t198 < 0) = false := decide_eq_false c11
          clear c11
          (first | rw [c11b0] | (simp only [i64_w, i32_w]; rw [c11b0]) | skip)
          by_cases c12 : t198 > (l0.length : Int)
          · rw [if_pos c12] at H
            have c12b0 : decide ((l0.length : Int) < t198) = true := decide_eq_true c12
            clear c12
            have H' := Aside0.mk H
            clear H
            go_wp2
            go_meet
            case rel => exact ⟨_, (true), (by first | rfl | (simp; done) | (simp [*]; done)), H', ⟨by first | omega | exact Nat.le_refl _⟩, ⟨by repeat (first | (with_reducible first | exact HB.out | apply below_alloc | apply pw_below_drewN | apply below_drew1) | exact HB.out)⟩⟩
          · rw [if_neg c12] at H
            have c12b0 : decide ((l0.length : Int) < t198) = false := decide_eq_false c12
            clear c12
            by_cases c13 : t198 < (l0.length : Int)
            · rw [if_pos c13] at H
              have c13b0 : decide (t198 < (l0.length : Int)) = true := decide_eq_true c13
              clear c13
              by_cases c14 : 0 ≤ t198
              · rw [if_pos c14] at H
                have c14b0 : decide (0 ≤ t198) = true := decide_eq_true c14
                clear c14
                have H' := Aside0.mk H
                clear H
                have p201 : 0 ≤ (t198 : Int) := of_decide_eq_true (by first | (with_reducible assumption) | assumption)
                have q201 : t198 < (l0.length : Int) := of_decide_eq_true (by first | (with_reducible assumption) | assumption)
                obtain ⟨ad201, e201, hx201_0⟩ := Kd.at_int HR0.out t198 p201 q201
                cases e201
                replace hx201_0 := (HB.out.cell (World.block_lt_of_cell? w _ hx201_0)).trans hx201_0
                replace p201 := eq_true p201
                replace q201 := eq_true q201
                go_wp2
                go_meet
                case rel => exact ⟨_, ((t199 != ((rd l0 t198) == a1))), (by first | rfl | (simp; done) | (simp [*]; done)), H', ⟨by first | omega | exact Nat.le_refl _⟩, ⟨by repeat (first | (with_reducible first | exact HB.out | apply below_alloc | apply pw_below_drewN | apply below_drew1) | exact HB.out)⟩⟩
              · rw [if_neg c14] at H
                exact absurd H (by simp)
            · rw [if_neg c13] at H
              have c13b0 : decide (t198 < (l0.length : Int)) = false := decide_eq_false c13
              clear c13
              have H' := Aside0.mk H
              clear H
              go_wp2
              go_meet
              case rel => exact ⟨_, ((t199 != false)), (by first | rfl | (simp; done) | (simp [*]; done)), H', ⟨by first | omega | exact Nat.le_refl _⟩, ⟨by repeat (first | (with_reducible first | exact HB.out | apply below_alloc | apply pw_below_drewN | apply below_drew1) | exact HB.out)⟩⟩
      case rest =>
        clear HC9
        try clear c1
        try clear c2
        try clear p2
        try clear q2
        try clear hx2
        try clear c5
        try clear c6
        try clear c8
        try clear c11
        try clear c11b0
        try clear c12
        try clear c12b0
        try clear c13
        try clear c13b0
        try clear c14
        try clear c14b0
        try clear hx201_0
        try clear p201
        try clear q201
        obtain ⟨kq, x59_8, rfl, HA, HJ8, HB⟩ := hcut
        cases kq with
        | zero => exact absurd HA.out (by simp [inclinelaw03_KeysPlaces.j0])
        | succ kj8 =>
          have H := HA.out
          clear HA
          simp only [inclinelaw03_KeysPlaces.j0] at H
          by_cases c15 : x59_8 = true
          · subst c15
            have H1 : (none) = some r := by rw [if_pos rfl] at H; exact H
            clear H
            have H := H1
            clear H1
            exact absurd H (by simp)
          · replace c15 := Bool.eq_false_iff.mpr c15
            subst c15
            have H1 : (inclinelaw03_KeysPlaces.l0 kj8 l0 a1 a2 true t198 0) = some r := by rw [if_neg (show ¬ (false = true) by decide)] at H; exact H
            clear H
            have H := H1
            clear H1
            have H' := Aside0.mk H
            clear H
            go_wp2
            go_loopg [10] kj8 (fun kq v10 w' => ∃ (x10_2 : Int), v10 = .int .i64 x10_2 ∧ Aside0 (inclinelaw03_KeysPlaces.l0 kq l0 a1 a2 true t198 x10_2 = some r) ∧ Aside0 (kq ≤ kj8) ∧ Aside0 (Below w.heap.size w w'))
            case atStart => exact ⟨(0), (by first | rfl | (simp; done) | (simp [*]; done)), H', ⟨Nat.le_refl _⟩, ⟨by repeat (first | (with_reducible first | exact HB.out | apply below_alloc | apply pw_below_drewN | apply below_drew1) | exact HB.out)⟩⟩
            case round =>
              clear H'
              try clear c1
              try clear c2
              try clear p2
              try clear q2
              try clear hx2
              try clear c5
              try clear c6
              try clear c8
              try clear c11
              try clear c11b0
              try clear c12
              try clear c12b0
              try clear c13
              try clear c13b0
              try clear c14
              try clear c14b0
              try clear c15
              try clear hx201_0
              try clear p2
              try clear p201
              try clear q2
              try clear q201
              obtain ⟨x10_2, rfl, HA, HK2, HB⟩ := hrel
              cases gk with
              | zero => exact absurd HA.out (by simp [inclinelaw03_KeysPlaces.l0])
              | succ k2 =>
                have H := HA.out
                clear HA
                simp only [inclinelaw03_KeysPlaces.l0] at H
                by_cases c16 : x10_2 < (l0.length : Int)
                · rw [if_pos c16] at H
                  have c16b0 : decide (x10_2 < (l0.length : Int)) = true := decide_eq_true c16
                  clear c16
                  by_cases c17 : 0 ≤ x10_2
                  · rw [if_pos c17] at H
                    have c17b0 : decide (0 ≤ x10_2) = true := decide_eq_true c17
                    clear c17
                    by_cases c18 : ((decide ((rd l0 x10_2) < a1)) != (decide (x10_2 < t198))) = true
                    · rw [if_pos c18] at H
                      exact absurd H (by simp)
                    · rw [if_neg c18] at H
                      have c18b0 : ((decide ((rd l0 x10_2) < a1)) != (decide (x10_2 < t198))) = false := by simpa using c18
                      (try (have c18b1 : decide ((decide ((rd l0 x10_2) < a1)) = (decide (x10_2 < t198))) = true := by simpa using c18))
                      (try (have c18b2 : ((decide ((rd l0 x10_2) < a1)) == (decide (x10_2 < t198))) = true := by simpa using c18))
                      clear c18
                      replace H := Option.bind_eq_some_iff.mp H
                      obtain ⟨⟨t206, t207⟩, A190, H⟩ := H
                      replace H : (if t206 = x10_2 then (if t207 = true then (inclinelaw03_KeysPlaces.l0 k2 l0 a1 a2 true t198 (wrap64 (x10_2 + 1))) else (none)) else (none)) = some r := H
                      have A19 := Aside0.mk A190
                      clear A190
                      by_cases c20 : t206 = x10_2
                      · rw [if_pos c20] at H
                        have c20b0 : (t206 == x10_2) = true := beq_iff_eq.mpr c20
                        have c20b1 : (t206 != x10_2) = false := bne_eq_false_iff_eq.mpr c20
                        clear c20
                        by_cases c21 : t207 = true
                        · subst c21
                          have H1 : (inclinelaw03_KeysPlaces.l0 k2 l0 a1 a2 true t198 (wrap64 (x10_2 + 1))) = some r := by rw [if_pos rfl] at H; exact H
                          clear H
                          have H := H1
                          clear H1
                          have H' := Aside0.mk H
                          clear H
                          have p204 : 0 ≤ (x10_2 : Int) := of_decide_eq_true (by first | (with_reducible assumption) | assumption)
                          have q204 : x10_2 < (l0.length : Int) := of_decide_eq_true (by first | (with_reducible assumption) | assumption)
                          obtain ⟨ad204, e204, hx204_0⟩ := Kd.at_int HR0.out x10_2 p204 q204
                          cases e204
                          replace hx204_0 := (HB.out.cell (World.block_lt_of_cell? w _ hx204_0)).trans hx204_0
                          replace p204 := eq_true p204
                          replace q204 := eq_true q204
                          have p205 : 0 ≤ (x10_2 : Int) := of_decide_eq_true (by first | (with_reducible assumption) | assumption)
                          have q205 : x10_2 < (l0.length : Int) := of_decide_eq_true (by first | (with_reducible assumption) | assumption)
                          obtain ⟨ad205, e205, hx205_0⟩ := Kd.at_int HR0.out x10_2 p205 q205
                          obtain rfl : ad204 = ad205 := (by injection e205)
                          replace hx205_0 := (HB.out.cell (World.block_lt_of_cell? w _ hx205_0)).trans hx205_0
                          replace p205 := eq_true p205
                          replace q205 := eq_true q205
                          go_wp2_with (first | ((with_reducible refine gate_callee (f := 18) rfl ?_); refine goesL_ (some 82) rfl rfl Try.func18 (by kernel_rfl) rfl #[.slice (some ad204) l0.length c0, .int .u64 (rd l0 x10_2)] rfl (by (try simp only [List.map_toArray, List.map_cons, List.map_nil]); first | done | rfl | (simp only [List.length_drop, List.length_take]; rfl)) ?_; (with_reducible refine (keys_Rank.calls k2 _ _ l0 (rd l0 x10_2) t206 true _ ?side1 ?side2 A19.out).mono ?_); (case side1 => repeat (first | exact (Kd.C_below HR0.out HB.out) | (with_reducible refine Kd.C_alloc ?_ _) | (with_reducible refine Kd.C_drewN ?_ _) | (with_reducible refine Kd.C_drew ?_))); (case side2 => exact HC0.out); rintro e w' ⟨rfl, ⟨nd, rfl⟩⟩; refine ⟨_, rfl, ?_⟩))
                          go_roundg k2
                          case measure => have := HJ8.out; have := HK2.out; omega
                          case rel => exact ⟨(wrap64 (x10_2 + 1)), (by first | rfl | (simp; done) | (simp [*]; done)), H', ⟨by have := HJ8.out; have := HK2.out; omega⟩, ⟨by repeat (first | (with_reducible first | exact HB.out | apply below_alloc | apply pw_below_drewN | apply below_drew1) | exact HB.out)⟩⟩
                        · replace c21 := Bool.eq_false_iff.mpr c21
                          subst c21
                          have H1 : (none) = some r := by rw [if_neg (show ¬ (false = true) by decide)] at H; exact H
                          clear H
                          have H := H1
                          clear H1
                          exact absurd H (by simp)
                      · rw [if_neg c20] at H
                        exact absurd H (by simp)
                  · rw [if_neg c17] at H
                    exact absurd H (by simp)
                · rw [if_neg c16] at H
                  have c16b0 : decide (x10_2 < (l0.length : Int)) = false := decide_eq_false c16
                  clear c16
                  replace H := Option.bind_eq_some_iff.mp H
                  obtain ⟨⟨t202, t203⟩, A220, H⟩ := H
                  replace H : (if true = true then (if a2 > a1 then (if a2 < a1 then (some true) else (some (decide (t202 ≥ t198)))) else (if t202 ≤ t198 then (if a2 < a1 then (some true) else (some (decide (t202 ≥ t198)))) else (none))) else (none)) = some r := H
                  have A22 := Aside0.mk A220
                  clear A220
                  rw [if_pos rfl] at H
                  by_cases c23 : a2 > a1
                  · rw [if_pos c23] at H
                    have c23b0 : decide (a1 < a2) = true := decide_eq_true c23
                    clear c23
                    by_cases c24 : a2 < a1
                    · rw [if_pos c24] at H
                      have c24b0 : decide (a2 < a1) = true := decide_eq_true c24
                      clear c24
                      obtain rfl := Option.some.inj H
                      go_wp2_with (first | ((with_reducible refine gate_callee (f := 18) rfl ?_); refine goesL_ (some 95) rfl rfl Try.func18 (by kernel_rfl) rfl #[.slice A0 l0.length c0, .int .u64 a2] rfl (by (try simp only [List.map_toArray, List.map_cons, List.map_nil]); first | done | rfl | (simp only [List.length_drop, List.length_take]; rfl)) ?_; (with_reducible refine (keys_Rank.calls k2 _ _ l0 a2 t202 t203 _ ?side1 ?side2 A22.out).mono ?_); (case side1 => repeat (first | exact (Kd.C_below HR0.out HB.out) | (with_reducible refine Kd.C_alloc ?_ _) | (with_reducible refine Kd.C_drewN ?_ _) | (with_reducible refine Kd.C_drew ?_))); (case side2 => exact HC0.out); rintro e w' ⟨rfl, ⟨nd, rfl⟩⟩; refine ⟨_, rfl, ?_⟩))
                      go_ret
                      exact ⟨by first | rfl | (simp [errW_none, errW_some] <;> rfl) | (simp [*, errW_none, errW_some] <;> rfl), by repeat (first | (with_reducible first | exact HB.out | apply below_alloc | apply pw_below_drewN | apply below_drew1) | exact HB.out)⟩
                    · rw [if_neg c24] at H
                      have c24b0 : decide (a2 < a1) = false := decide_eq_false c24
                      clear c24
                      obtain rfl := Option.some.inj H
                      go_wp2_with (first | ((with_reducible refine gate_callee (f := 18) rfl ?_); refine goesL_ (some 95) rfl rfl Try.func18 (by kernel_rfl) rfl #[.slice A0 l0.length c0, .int .u64 a2] rfl (by (try simp only [List.map_toArray, List.map_cons, List.map_nil]); first | done | rfl | (simp only [List.length_drop, List.length_take]; rfl)) ?_; (with_reducible refine (keys_Rank.calls k2 _ _ l0 a2 t202 t203 _ ?side1 ?side2 A22.out).mono ?_); (case side1 => repeat (first | exact (Kd.C_below HR0.out HB.out) | (with_reducible refine Kd.C_alloc ?_ _) | (with_reducible refine Kd.C_drewN ?_ _) | (with_reducible refine Kd.C_drew ?_))); (case side2 => exact HC0.out); rintro e w' ⟨rfl, ⟨nd, rfl⟩⟩; refine ⟨_, rfl, ?_⟩))
                      go_ret
                      exact ⟨by first | rfl | (simp [errW_none, errW_some] <;> rfl) | (simp [*, errW_none, errW_some] <;> rfl), by repeat (first | (with_reducible first | exact HB.out | apply below_alloc | apply pw_below_drewN | apply below_drew1) | exact HB.out)⟩
                  · rw [if_neg c23] at H
                    have c23b0 : decide (a1 < a2) = false := decide_eq_false c23
                    clear c23
                    by_cases c25 : t202 ≤ t198
                    · rw [if_pos c25] at H
                      have c25b0 : decide (t202 ≤ t198) = true := decide_eq_true c25
                      clear c25
                      by_cases c26 : a2 < a1
                      · rw [if_pos c26] at H
                        have c26b0 : decide (a2 < a1) = true := decide_eq_true c26
                        clear c26
                        obtain rfl := Option.some.inj H
                        go_wp2_with (first | ((with_reducible refine gate_callee (f := 18) rfl ?_); refine goesL_ (some 95) rfl rfl Try.func18 (by kernel_rfl) rfl #[.slice A0 l0.length c0, .int .u64 a2] rfl (by (try simp only [List.map_toArray, List.map_cons, List.map_nil]); first | done | rfl | (simp only [List.length_drop, List.length_take]; rfl)) ?_; (with_reducible refine (keys_Rank.calls k2 _ _ l0 a2 t202 t203 _ ?side1 ?side2 A22.out).mono ?_); (case side1 => repeat (first | exact (Kd.C_below HR0.out HB.out) | (with_reducible refine Kd.C_alloc ?_ _) | (with_reducible refine Kd.C_drewN ?_ _) | (with_reducible refine Kd.C_drew ?_))); (case side2 => exact HC0.out); rintro e w' ⟨rfl, ⟨nd, rfl⟩⟩; refine ⟨_, rfl, ?_⟩))
                        go_ret
                        exact ⟨by first | rfl | (simp [errW_none, errW_some] <;> rfl) | (simp [*, errW_none, errW_some] <;> rfl), by repeat (first | (with_reducible first | exact HB.out | apply below_alloc | apply pw_below_drewN | apply below_drew1) | exact HB.out)⟩
                      · rw [if_neg c26] at H
                        have c26b0 : decide (a2 < a1) = false := decide_eq_false c26
                        clear c26
                        obtain rfl := Option.some.inj H
                        go_wp2_with (first | ((with_reducible refine gate_callee (f := 18) rfl ?_); refine goesL_ (some 95) rfl rfl Try.func18 (by kernel_rfl) rfl #[.slice A0 l0.length c0, .int .u64 a2] rfl (by (try simp only [List.map_toArray, List.map_cons, List.map_nil]); first | done | rfl | (simp only [List.length_drop, List.length_take]; rfl)) ?_; (with_reducible refine (keys_Rank.calls k2 _ _ l0 a2 t202 t203 _ ?side1 ?side2 A22.out).mono ?_); (case side1 => repeat (first | exact (Kd.C_below HR0.out HB.out) | (with_reducible refine Kd.C_alloc ?_ _) | (with_reducible refine Kd.C_drewN ?_ _) | (with_reducible refine Kd.C_drew ?_))); (case side2 => exact HC0.out); rintro e w' ⟨rfl, ⟨nd, rfl⟩⟩; refine ⟨_, rfl, ?_⟩))
                        go_ret
                        exact ⟨by first | rfl | (simp [errW_none, errW_some] <;> rfl) | (simp [*, errW_none, errW_some] <;> rfl), by repeat (first | (with_reducible first | exact HB.out | apply below_alloc | apply pw_below_drewN | apply below_drew1) | exact HB.out)⟩
                    · rw [if_neg c25] at H
                      exact absurd H (by simp)
    · replace c8 := Bool.eq_false_iff.mpr c8
      subst c8
      have H1 : (if t198 = (-1) then (some (!t199)) else (none)) = some r := by rw [if_neg (show ¬ (false = true) by decide)] at H; exact H
      clear H
      have H := H1
      clear H1
      by_cases c27 : t198 = (-1)
      · rw [if_pos c27] at H
        have c27b0 : (t198 == (-1)) = true := beq_iff_eq.mpr c27
        have c27b1 : (t198 != (-1)) = false := bne_eq_false_iff_eq.mpr c27
        clear c27
        obtain rfl := Option.some.inj H
        go_enter Try.func6, Try.ntmps6
        go_wp2_with (first | ((with_reducible refine gate_callee (f := 8) rfl ?_); refine goesL_ (some 15) rfl rfl Try.func8 (by kernel_rfl) rfl #[] rfl (by (try simp only [List.map_toArray, List.map_cons, List.map_nil]); first | done | rfl | (simp only [List.length_drop, List.length_take]; rfl)) ?_; (with_reducible refine (inclinelaw03_shown.calls k  true _ A4.out).mono ?_); rintro e w28 ⟨rfl, hb⟩; refine ⟨_, rfl, ?_⟩; have n0_ := Aside0.mk (below_step (by repeat (first | (with_reducible first | exact HB.out | apply below_alloc | apply pw_below_drewN | apply below_drew1) | exact HB.out)) hb); clear HB; have HB := n0_; clear n0_; (try clear hb); (try clear hb2); (try clear hk); (try clear hi)) | ((with_reducible refine gate_callee (f := 18) rfl ?_); refine goesL_ (some 21) rfl rfl Try.func18 (by kernel_rfl) rfl #[.slice A0 l0.length c0, .int .u64 a1] rfl (by (try simp only [List.map_toArray, List.map_cons, List.map_nil]); first | done | rfl | (simp only [List.length_drop, List.length_take]; rfl)) ?_; (with_reducible refine (keys_Rank.calls k _ _ l0 a1 t198 t199 _ ?side1 ?side2 A6.out).mono ?_); (case side1 => repeat (first | exact (Kd.C_below HR0.out HB.out) | (with_reducible refine Kd.C_alloc ?_ _) | (with_reducible refine Kd.C_drewN ?_ _) | (with_reducible refine Kd.C_drew ?_))); (case side2 => exact HC0.out); rintro e w' ⟨rfl, ⟨nd, rfl⟩⟩; refine ⟨_, rfl, ?_⟩) | ((with_reducible refine gate_callee (f := 20) rfl ?_); refine goesL_ (some 25) rfl rfl Try.func20 (by kernel_rfl) rfl #[.slice A0 l0.length c0] rfl (by (try simp only [List.map_toArray, List.map_cons, List.map_nil]); first | done | rfl | (simp only [List.length_drop, List.length_take]; rfl)) ?_; (with_reducible refine (keys_Rising.calls _ _ l0 false _ ?side1 ?side2 A7.out).mono ?_); (case side1 => repeat (first | exact (Kd.C_below HR0.out (by repeat (first | (with_reducible first | exact HB.out | apply below_alloc | apply pw_below_drewN | apply below_drew1) | exact HB.out))) | (with_reducible refine Kd.C_alloc ?_ _) | (with_reducible refine Kd.C_drewN ?_ _) | (with_reducible refine Kd.C_drew ?_))); (case side2 => exact HC0.out); rintro e w' ⟨rfl, ⟨nd, rfl⟩⟩; refine ⟨_, rfl, ?_⟩))
        go_ret
        exact ⟨by first | rfl | (simp [errW_none, errW_some] <;> rfl) | (simp [*, errW_none, errW_some] <;> rfl), by repeat (first | (with_reducible first | exact HB.out | apply below_alloc | apply pw_below_drewN | apply below_drew1) | exact HB.out)⟩
      · rw [if_neg c27] at H
        exact absurd H (by simp)
  · replace c5 := Bool.eq_false_iff.mpr c5
    subst c5
    have H1 : (none) = some r := by rw [if_neg (show ¬ (false = true) by decide)] at H; exact H
    clear H
    have H := H1
    clear H1
    exact absurd H (by simp)

/-- THE ONE PURE STATEMENT of inclinelaw03_KeysPlaces: yours. -/
def inclinelaw03_KeysPlaces.Pure : Prop := ∀ (l0 : List Int) (a1 : Int) (a2 : Int), l0.length ≤ maxLen → l0.length * 8 ≤ 140737488351232 → (∀ x ∈ l0, (Lit.int .u64 x).wf = true) → (Lit.int .u64 a1).wf = true → (Lit.int .u64 a2).wf = true → ∃ k, inclinelaw03_KeysPlaces.f k l0 a1 a2 = some true
theorem inclinelaw03_KeysPlaces.walk (P : inclinelaw03_KeysPlaces.Pure) (a0 : Option Addr) (len0 cap0 : Nat) (z0 : List Int) (a1 : Int) (a2 : Int) (w : World) (w0 : (a0 = none ∧ len0 = 0 ∧ cap0 = 0 ∧ z0 = []) ∨ ∃ x, a0 = some x ∧ len0 ≤ cap0 ∧ cap0 ≤ maxLen ∧ z0.length = cap0 ∧ (∀ i, i < z0.length → w.cell? (x.add i) = some (.int .u64 (z0.getD i 0))) ∧ ∀ n ∈ z0, (Lit.int .u64 n).wf = true) (y0 : len0 * 8 ≤ 140737488351232) (w1 : (Lit.int .u64 a1).wf = true) (w2 : (Lit.int .u64 a2).wf = true) :
    Calls Try.prog 6 #[.slice a0 len0 cap0, .int .u64 a1, .int .u64 a2] w fun e w' => e = .returned (.bool true) ∧ Below w.heap.size w w' := by
  obtain ⟨l0, rfl, hr0, hm0, hw0, hc0⟩ := ReadsInt.ofRowC w0
  obtain ⟨k, h⟩ := P l0 a1 a2 hm0 y0 hw0 w1 w2
  refine (inclinelaw03_KeysPlaces.calls k _ _ l0 a1 a2 true w (Kd.C_of_reads (d := (0 : Int)) (h1 := fun _ => rfl) hr0) hc0 h).mono ?_
  rintro e w' ⟨rfl, hd⟩
  exact ⟨rfl, hd⟩

end Go.Proofs.Ytmblnpgeaihebaa.G
