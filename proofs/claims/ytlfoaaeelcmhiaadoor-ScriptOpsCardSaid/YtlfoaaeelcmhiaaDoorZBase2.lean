/- Some of the claim's own texts, in one file: Gx16, PlainC, PlainD, PlainE, Gx8, Mark, PairsG, PlainF, PlainM, PlainN, Gx6, PlainG, Gx12. Conditions: each theorem's own. -/
import Derived.Test.YtlfoaaeelcmhiaaDoorZBase1
import Derived.Lib.Bytes
import Derived.Lib.ConvBytes
import Derived.Lib.FrozenHead2
import Derived.Lib.ItoaLen
section
-- Written by a program of this session (wip/gprint.py: the kit's print, with contracts proved by hand)
namespace Go.Proofs.YtlfoaaeelcmhiaaDoor.G
open Go.RowKit Go.Proofs.YtlfoaaeelcmhiaaDoorW.PrintWords Go.Proofs.YtlfoaaeelcmhiaaDoorW.PrintLast Go.Proofs.YtlfoaaeelcmhiaaDoorW.PrintMore
attribute [local go_sem] max2_int min2_int max_two min_two max_three min_three max_four min_four   -- for this text's walks alone
set_option linter.unusedVariables false
set_option linter.unusedSimpArgs false

/-! ### inclineref21_Takes: function 29 -/
mutual
def inclineref21_Takes.j0 : Nat → ByteArray → Bool → Option (Int)
  | 0, _, _ => none
  | k + 1, x3, x4 => if x4 = true then (some 0) else (if x3.toList = ([100, 101, 108] : List UInt8) then (inclineref21_Takes.j1 k x3 (x3.toList == ([100, 101, 108] : List UInt8))) else (if x3.toList = ([103, 101, 116] : List UInt8) then (inclineref21_Takes.j1 k x3 (x3.toList == ([103, 101, 116] : List UInt8))) else (if x3.toList = ([102, 108, 111, 111, 114] : List UInt8) then (inclineref21_Takes.j1 k x3 (x3.toList == ([102, 108, 111, 111, 114] : List UInt8))) else (if x3.toList = ([99, 101, 105, 108] : List UInt8) then (inclineref21_Takes.j1 k x3 (x3.toList == ([99, 101, 105, 108] : List UInt8))) else (inclineref21_Takes.j1 k x3 (x3.toList == ([114, 97, 110, 107] : List UInt8)))))))
def inclineref21_Takes.j1 : Nat → ByteArray → Bool → Option (Int)
  | 0, _, _ => none
  | k + 1, x3, x8 => if x8 = true then (some 1) else (if x3.toList = ([112, 117, 116] : List UInt8) then (inclineref21_Takes.j2 k x3 (x3.toList == ([112, 117, 116] : List UInt8))) else (if x3.toList = ([114, 97, 110, 103, 101] : List UInt8) then (inclineref21_Takes.j2 k x3 (x3.toList == ([114, 97, 110, 103, 101] : List UInt8))) else (inclineref21_Takes.j2 k x3 (x3.toList == ([112, 97, 116, 104] : List UInt8)))))
def inclineref21_Takes.j2 : Nat → ByteArray → Bool → Option (Int)
  | 0, _, _ => none
  | k + 1, x3, x14 => if x14 = true then (some 2) else (if x3.toList = ([109, 97, 112] : List UInt8) then (some 3) else (some (-1)))
end
def inclineref21_Takes.f (k : Nat) (a0 : ByteArray) : Option (Int) := if a0.toList = ([115, 116, 97, 116, 115] : List UInt8) then (inclineref21_Takes.j0 k a0 (a0.toList == ([115, 116, 97, 116, 115] : List UInt8))) else (if a0.toList = ([115, 97, 118, 101] : List UInt8) then (inclineref21_Takes.j0 k a0 (a0.toList == ([115, 97, 118, 101] : List UInt8))) else (inclineref21_Takes.j0 k a0 (a0.toList == ([108, 111, 97, 100] : List UInt8))))
theorem inclineref21_Takes.mono_l : ∀ k, (∀ y0 y1, LeO (inclineref21_Takes.j0 k y0 y1) (inclineref21_Takes.j0 (k + 1) y0 y1)) ∧ (∀ y0 y1, LeO (inclineref21_Takes.j1 k y0 y1) (inclineref21_Takes.j1 (k + 1) y0 y1)) ∧ (∀ y0 y1, LeO (inclineref21_Takes.j2 k y0 y1) (inclineref21_Takes.j2 (k + 1) y0 y1))
  | 0 => ⟨fun _ _ r h => by simp [inclineref21_Takes.j0] at h, fun _ _ r h => by simp [inclineref21_Takes.j1] at h, fun _ _ r h => by simp [inclineref21_Takes.j2] at h⟩
  | k + 1 => by
    obtain ⟨ih0, ih1, ih2⟩ := inclineref21_Takes.mono_l k
    refine ⟨?_, ?_, ?_⟩
    · intro y0 y1
      unfold inclineref21_Takes.j0
      repeat' first
      | (with_reducible exact ih0 _ _)
      | (with_reducible exact ih1 _ _)
      | (with_reducible exact ih2 _ _)
      | (with_reducible exact LeO.refl _)
      | (with_reducible exact LeO.none _)
      | (with_reducible refine LeO.ite ?_ ?_)
      | (with_reducible refine LeO.bind ?_ (fun _ => ?_))
      | exact ih0 _ _
      | exact ih1 _ _
      | exact ih2 _ _
      | exact LeO.none _
      | refine LeO.ite ?_ ?_
      | refine LeO.bind ?_ (fun _ => ?_)
    · intro y0 y1
      unfold inclineref21_Takes.j1
      repeat' first
      | (with_reducible exact ih0 _ _)
      | (with_reducible exact ih1 _ _)
      | (with_reducible exact ih2 _ _)
      | (with_reducible exact LeO.refl _)
      | (with_reducible exact LeO.none _)
      | (with_reducible refine LeO.ite ?_ ?_)
      | (with_reducible refine LeO.bind ?_ (fun _ => ?_))
      | exact ih0 _ _
      | exact ih1 _ _
      | exact ih2 _ _
      | exact LeO.none _
      | refine LeO.ite ?_ ?_
      | refine LeO.bind ?_ (fun _ => ?_)
    · intro y0 y1
      unfold inclineref21_Takes.j2
      repeat' first
      | (with_reducible exact ih0 _ _)
      | (with_reducible exact ih1 _ _)
      | (with_reducible exact ih2 _ _)
      | (with_reducible exact LeO.refl _)
      | (with_reducible exact LeO.none _)
      | (with_reducible refine LeO.ite ?_ ?_)
      | (with_reducible refine LeO.bind ?_ (fun _ => ?_))
      | exact ih0 _ _
      | exact ih1 _ _
      | exact ih2 _ _
      | exact LeO.none _
      | refine LeO.ite ?_ ?_
      | refine LeO.bind ?_ (fun _ => ?_)
theorem inclineref21_Takes.mono : ∀ a0 k, LeO (inclineref21_Takes.f k a0) (inclineref21_Takes.f (k + 1) a0) := by
  intro a0 k
  obtain ⟨ih0, ih1, ih2⟩ := inclineref21_Takes.mono_l k
  unfold inclineref21_Takes.f
  repeat' first
      | (with_reducible exact ih0 _ _)
      | (with_reducible exact ih1 _ _)
      | (with_reducible exact ih2 _ _)
      | (with_reducible exact LeO.refl _)
      | (with_reducible exact LeO.none _)
      | (with_reducible refine LeO.ite ?_ ?_)
      | (with_reducible refine LeO.bind ?_ (fun _ => ?_))
      | exact ih0 _ _
      | exact ih1 _ _
      | exact ih2 _ _
      | exact LeO.none _
      | refine LeO.ite ?_ ?_
      | refine LeO.bind ?_ (fun _ => ?_)
set_option maxHeartbeats 8000000 in
set_option maxRecDepth 100000 in
theorem inclineref21_Takes.calls (k : Nat) (a0 : ByteArray) (r : Int) (w : World) (h : inclineref21_Takes.f k a0 = some r) :
    Calls Tryd.prog 29 #[.string a0] w fun e w' => e = .returned (.int .i64 r) ∧ Drawn0 w w' := by
  have H : (if a0.toList = ([115, 116, 97, 116, 115] : List UInt8) then (inclineref21_Takes.j0 k a0 (a0.toList == ([115, 116, 97, 116, 115] : List UInt8))) else (if a0.toList = ([115, 97, 118, 101] : List UInt8) then (inclineref21_Takes.j0 k a0 (a0.toList == ([115, 97, 118, 101] : List UInt8))) else (inclineref21_Takes.j0 k a0 (a0.toList == ([108, 111, 97, 100] : List UInt8))))) = some r := h
  clear h
  have HC2 := Aside0.mk H
  clear H
  go_enter Tryd.func29, Tryd.ntmps29
  go_upto_if 4 with (fail)
  go_cut [4] (fun v4 wc => ∃ (kq : Nat) (x4_1 : Bool), v4 = .bool x4_1 ∧ Aside0 (inclineref21_Takes.j0 kq a0 x4_1 = some r) ∧ Aside0 (kq ≤ k) ∧ Drawn0 w wc)
  case first =>
    have H := HC2.out
    clear HC2
    by_cases c3 : a0.toList = ([115, 116, 97, 116, 115] : List UInt8)
    · rw [if_pos c3] at H
      have c3b0 : (a0.toList == ([115, 116, 97, 116, 115] : List UInt8)) = true := beq_iff_eq.mpr c3
      have c3b1 : (a0.toList != ([115, 116, 97, 116, 115] : List UInt8)) = false := bne_eq_false_iff_eq.mpr c3
      clear c3
      (first | rw [c3b0] | (simp only [i64_w, i32_w]; rw [c3b0]) | skip)
      have H' := Aside0.mk H
      clear H
      go_wp2
      go_meet
      case rel => exact ⟨_, ((a0.toList == ([115, 116, 97, 116, 115] : List UInt8))), (by first | rfl | (simp; done) | (simp [*]; done)), H', ⟨by first | omega | exact Nat.le_refl _⟩, by repeat (first | exact Drawn0.refl _ | apply Drawn0.step)⟩
    · rw [if_neg c3] at H
      have c3b0 : (a0.toList == ([115, 116, 97, 116, 115] : List UInt8)) = false := beq_eq_false_iff_ne.mpr c3
      have c3b1 : (a0.toList != ([115, 116, 97, 116, 115] : List UInt8)) = true := bne_iff_ne.mpr c3
      (first | rw [c3b0] | (simp only [i64_w, i32_w]; rw [c3b0]) | skip)
      by_cases c4 : a0.toList = ([115, 97, 118, 101] : List UInt8)
      · rw [if_pos c4] at H
        have c4b0 : (a0.toList == ([115, 97, 118, 101] : List UInt8)) = true := beq_iff_eq.mpr c4
        have c4b1 : (a0.toList != ([115, 97, 118, 101] : List UInt8)) = false := bne_eq_false_iff_eq.mpr c4
        clear c4
        have H' := Aside0.mk H
        clear H
        go_wp2
        go_meet
        case rel => exact ⟨_, ((a0.toList == ([115, 97, 118, 101] : List UInt8))), (by first | rfl | (simp; done) | (simp [*]; done)), H', ⟨by first | omega | exact Nat.le_refl _⟩, by repeat (first | exact Drawn0.refl _ | apply Drawn0.step)⟩
      · rw [if_neg c4] at H
        have c4b0 : (a0.toList == ([115, 97, 118, 101] : List UInt8)) = false := beq_eq_false_iff_ne.mpr c4
        have c4b1 : (a0.toList != ([115, 97, 118, 101] : List UInt8)) = true := bne_iff_ne.mpr c4
        have H' := Aside0.mk H
        clear H
        go_wp2
        go_meet
        case rel => exact ⟨_, ((a0.toList == ([108, 111, 97, 100] : List UInt8))), (by first | rfl | (simp; done) | (simp [*]; done)), H', ⟨by first | omega | exact Nat.le_refl _⟩, by repeat (first | exact Drawn0.refl _ | apply Drawn0.step)⟩
  case rest =>
    clear HC2
    try clear c2
    try clear p2
    try clear c3
    try clear c3b0
    try clear c3b1
    try clear c4
    try clear c4b0
    try clear c4b1
    obtain ⟨kq, x4_1, rfl, HA, HJ1, ⟨mc1, rfl⟩⟩ := hcut
    cases kq with
    | zero => exact absurd HA.out (by simp [inclineref21_Takes.j0])
    | succ kj1 =>
      have H := HA.out
      clear HA
      simp only [inclineref21_Takes.j0] at H
      by_cases c5 : x4_1 = true
      · subst c5
        have H1 : (some 0) = some r := by rw [if_pos rfl] at H; exact H
        clear H
        have H := H1
        clear H1
        obtain rfl := Option.some.inj H
        go_wp2
        go_ret
        exact ⟨by first | rfl | (simp; done) | (simp [*]; done), by repeat (first | exact Drawn0.refl _ | apply Drawn0.step)⟩
      · replace c5 := Bool.eq_false_iff.mpr c5
        subst c5
        have H1 : (if a0.toList = ([100, 101, 108] : List UInt8) then (inclineref21_Takes.j1 kj1 a0 (a0.toList == ([100, 101, 108] : List UInt8))) else (if a0.toList = ([103, 101, 116] : List UInt8) then (inclineref21_Takes.j1 kj1 a0 (a0.toList == ([103, 101, 116] : List UInt8))) else (if a0.toList = ([102, 108, 111, 111, 114] : List UInt8) then (inclineref21_Takes.j1 kj1 a0 (a0.toList == ([102, 108, 111, 111, 114] : List UInt8))) else (if a0.toList = ([99, 101, 105, 108] : List UInt8) then (inclineref21_Takes.j1 kj1 a0 (a0.toList == ([99, 101, 105, 108] : List UInt8))) else (inclineref21_Takes.j1 kj1 a0 (a0.toList == ([114, 97, 110, 107] : List UInt8))))))) = some r := by rw [if_neg (show ¬ (false = true) by decide)] at H; exact H
        clear H
        have H := H1
        clear H1
        have HC6 := Aside0.mk H
        clear H
        go_upto_if 8 with (fail)
        go_cut [8] (fun v8 wc => ∃ (kq : Nat) (x8_5 : Bool), v8 = .bool x8_5 ∧ Aside0 (inclineref21_Takes.j1 kq a0 x8_5 = some r) ∧ Aside0 (kq ≤ kj1) ∧ Drawn0 w wc)
        case first =>
          have H := HC6.out
          clear HC6
          by_cases c7 : a0.toList = ([100, 101, 108] : List UInt8)
          · rw [if_pos c7] at H
            have c7b0 : (a0.toList == ([100, 101, 108] : List UInt8)) = true := beq_iff_eq.mpr c7
            have c7b1 : (a0.toList != ([100, 101, 108] : List UInt8)) = false := bne_eq_false_iff_eq.mpr c7
            clear c7
            (first | rw [c7b0] | (simp only [i64_w, i32_w]; rw [c7b0]) | skip)
            have H' := Aside0.mk H
            clear H
            go_wp2
            go_meet
            case rel => exact ⟨_, ((a0.toList == ([100, 101, 108] : List UInt8))), (by first | rfl | (simp; done) | (simp [*]; done)), H', ⟨by have := HJ1.out; first | omega | exact Nat.le_refl _⟩, by repeat (first | exact Drawn0.refl _ | apply Drawn0.step)⟩
          · rw [if_neg c7] at H
            have c7b0 : (a0.toList == ([100, 101, 108] : List UInt8)) = false := beq_eq_false_iff_ne.mpr c7
            have c7b1 : (a0.toList != ([100, 101, 108] : List UInt8)) = true := bne_iff_ne.mpr c7
            (first | rw [c7b0] | (simp only [i64_w, i32_w]; rw [c7b0]) | skip)
            by_cases c8 : a0.toList = ([103, 101, 116] : List UInt8)
            · rw [if_pos c8] at H
              have c8b0 : (a0.toList == ([103, 101, 116] : List UInt8)) = true := beq_iff_eq.mpr c8
              have c8b1 : (a0.toList != ([103, 101, 116] : List UInt8)) = false := bne_eq_false_iff_eq.mpr c8
              clear c8
              have H' := Aside0.mk H
              clear H
              go_wp2
              go_meet
              case rel => exact ⟨_, ((a0.toList == ([103, 101, 116] : List UInt8))), (by first | rfl | (simp; done) | (simp [*]; done)), H', ⟨by have := HJ1.out; first | omega | exact Nat.le_refl _⟩, by repeat (first | exact Drawn0.refl _ | apply Drawn0.step)⟩
            · rw [if_neg c8] at H
              have c8b0 : (a0.toList == ([103, 101, 116] : List UInt8)) = false := beq_eq_false_iff_ne.mpr c8
              have c8b1 : (a0.toList != ([103, 101, 116] : List UInt8)) = true := bne_iff_ne.mpr c8
              by_cases c9 : a0.toList = ([102, 108, 111, 111, 114] : List UInt8)
              · rw [if_pos c9] at H
                have c9b0 : (a0.toList == ([102, 108, 111, 111, 114] : List UInt8)) = true := beq_iff_eq.mpr c9
                have c9b1 : (a0.toList != ([102, 108, 111, 111, 114] : List UInt8)) = false := bne_eq_false_iff_eq.mpr c9
                clear c9
                have H' := Aside0.mk H
                clear H
                go_wp2
                go_meet
                case rel => exact ⟨_, ((a0.toList == ([102, 108, 111, 111, 114] : List UInt8))), (by first | rfl | (simp; done) | (simp [*]; done)), H', ⟨by have := HJ1.out; first | omega | exact Nat.le_refl _⟩, by repeat (first | exact Drawn0.refl _ | apply Drawn0.step)⟩
              · rw [if_neg c9] at H
                have c9b0 : (a0.toList == ([102, 108, 111, 111, 114] : List UInt8)) = false := beq_eq_false_iff_ne.mpr c9
                have c9b1 : (a0.toList != ([102, 108, 111, 111, 114] : List UInt8)) = true := bne_iff_ne.mpr c9
                by_cases c10 : a0.toList = ([99, 101, 105, 108] : List UInt8)
                · rw [if_pos c10] at H
                  have c10b0 : (a0.toList == ([99, 101, 105, 108] : List UInt8)) = true := beq_iff_eq.mpr c10
                  have c10b1 : (a0.toList != ([99, 101, 105, 108] : List UInt8)) = false := bne_eq_false_iff_eq.mpr c10
                  clear c10
                  have H' := Aside0.mk H
                  clear H
                  go_wp2
                  go_meet
                  case rel => exact ⟨_, ((a0.toList == ([99, 101, 105, 108] : List UInt8))), (by first | rfl | (simp; done) | (simp [*]; done)), H', ⟨by have := HJ1.out; first | omega | exact Nat.le_refl _⟩, by repeat (first | exact Drawn0.refl _ | apply Drawn0.step)⟩
                · rw [if_neg c10] at H
                  have c10b0 : (a0.toList == ([99, 101, 105, 108] : List UInt8)) = false := beq_eq_false_iff_ne.mpr c10
                  have c10b1 : (a0.toList != ([99, 101, 105, 108] : List UInt8)) = true := bne_iff_ne.mpr c10
                  have H' := Aside0.mk H
                  clear H
                  go_wp2
                  go_meet
                  case rel => exact ⟨_, ((a0.toList == ([114, 97, 110, 107] : List UInt8))), (by first | rfl | (simp; done) | (simp [*]; done)), H', ⟨by have := HJ1.out; first | omega | exact Nat.le_refl _⟩, by repeat (first | exact Drawn0.refl _ | apply Drawn0.step)⟩
        case rest =>
          clear HC6
          try clear c1
          try clear c2
          try clear p2
          try clear c3
          try clear c3b0
          try clear c3b1
          try clear c4
          try clear c4b0
          try clear c4b1
          try clear c5
          try clear c7
          try clear c7b0
          try clear c7b1
          try clear c8
          try clear c8b0
          try clear c8b1
          try clear c9
          try clear c9b0
          try clear c9b1
          try clear c10
          try clear c10b0
          try clear c10b1
          try clear p2
          obtain ⟨kq, x8_5, rfl, HA, HJ5, ⟨mc5, rfl⟩⟩ := hcut
          cases kq with
          | zero => exact absurd HA.out (by simp [inclineref21_Takes.j1])
          | succ kj5 =>
            have H := HA.out
            clear HA
            simp only [inclineref21_Takes.j1] at H
            by_cases c11 : x8_5 = true
            · subst c11
              have H1 : (some 1) = some r := by rw [if_pos rfl] at H; exact H
              clear H
              have H := H1
              clear H1
              obtain rfl := Option.some.inj H
              go_wp2
              go_ret
              exact ⟨by first | rfl | (simp; done) | (simp [*]; done), by repeat (first | exact Drawn0.refl _ | apply Drawn0.step)⟩
            · replace c11 := Bool.eq_false_iff.mpr c11
              subst c11
              have H1 : (if a0.toList = ([112, 117, 116] : List UInt8) then (inclineref21_Takes.j2 kj5 a0 (a0.toList == ([112, 117, 116] : List UInt8))) else (if a0.toList = ([114, 97, 110, 103, 101] : List UInt8) then (inclineref21_Takes.j2 kj5 a0 (a0.toList == ([114, 97, 110, 103, 101] : List UInt8))) else (inclineref21_Takes.j2 kj5 a0 (a0.toList == ([112, 97, 116, 104] : List UInt8))))) = some r := by rw [if_neg (show ¬ (false = true) by decide)] at H; exact H
              clear H
              have H := H1
              clear H1
              have HC12 := Aside0.mk H
              clear H
              go_upto_if 14 with (fail)
              go_cut [14] (fun v14 wc => ∃ (kq : Nat) (x14_11 : Bool), v14 = .bool x14_11 ∧ Aside0 (inclineref21_Takes.j2 kq a0 x14_11 = some r) ∧ Aside0 (kq ≤ kj5) ∧ Drawn0 w wc)
              case first =>
                have H := HC12.out
                clear HC12
                by_cases c13 : a0.toList = ([112, 117, 116] : List UInt8)
                · rw [if_pos c13] at H
                  have c13b0 : (a0.toList == ([112, 117, 116] : List UInt8)) = true := beq_iff_eq.mpr c13
                  have c13b1 : (a0.toList != ([112, 117, 116] : List UInt8)) = false := bne_eq_false_iff_eq.mpr c13
                  clear c13
                  (first | rw [c13b0] | (simp only [i64_w, i32_w]; rw [c13b0]) | skip)
                  have H' := Aside0.mk H
                  clear H
                  go_wp2
                  go_meet
                  case rel => exact ⟨_, ((a0.toList == ([112, 117, 116] : List UInt8))), (by first | rfl | (simp; done) | (simp [*]; done)), H', ⟨by have := HJ1.out; have := HJ5.out; first | omega | exact Nat.le_refl _⟩, by repeat (first | exact Drawn0.refl _ | apply Drawn0.step)⟩
                · rw [if_neg c13] at H
                  have c13b0 : (a0.toList == ([112, 117, 116] : List UInt8)) = false := beq_eq_false_iff_ne.mpr c13
                  have c13b1 : (a0.toList != ([112, 117, 116] : List UInt8)) = true := bne_iff_ne.mpr c13
                  (first | rw [c13b0] | (simp only [i64_w, i32_w]; rw [c13b0]) | skip)
                  by_cases c14 : a0.toList = ([114, 97, 110, 103, 101] : List UInt8)
                  · rw [if_pos c14] at H
                    have c14b0 : (a0.toList == ([114, 97, 110, 103, 101] : List UInt8)) = true := beq_iff_eq.mpr c14
                    have c14b1 : (a0.toList != ([114, 97, 110, 103, 101] : List UInt8)) = false := bne_eq_false_iff_eq.mpr c14
                    clear c14
                    have H' := Aside0.mk H
                    clear H
                    go_wp2
                    go_meet
                    case rel => exact ⟨_, ((a0.toList == ([114, 97, 110, 103, 101] : List UInt8))), (by first | rfl | (simp; done) | (simp [*]; done)), H', ⟨by have := HJ1.out; have := HJ5.out; first | omega | exact Nat.le_refl _⟩, by repeat (first | exact Drawn0.refl _ | apply Drawn0.step)⟩
                  · rw [if_neg c14] at H
                    have c14b0 : (a0.toList == ([114, 97, 110, 103, 101] : List UInt8)) = false := beq_eq_false_iff_ne.mpr c14
                    have c14b1 : (a0.toList != ([114, 97, 110, 103, 101] : List UInt8)) = true := bne_iff_ne.mpr c14
                    have H' := Aside0.mk H
                    clear H
                    go_wp2
                    go_meet
                    case rel => exact ⟨_, ((a0.toList == ([112, 97, 116, 104] : List UInt8))), (by first | rfl | (simp; done) | (simp [*]; done)), H', ⟨by have := HJ1.out; have := HJ5.out; first | omega | exact Nat.le_refl _⟩, by repeat (first | exact Drawn0.refl _ | apply Drawn0.step)⟩
              case rest =>
                clear HC12
                try clear c1
                try clear c2
                try clear p2
                try clear c3
                try clear c3b0
                try clear c3b1
                try clear c4
                try clear c4b0
                try clear c4b1
                try clear c5
                try clear c7
                try clear c7b0
                try clear c7b1
                try clear c8
                try clear c8b0
                try clear c8b1
                try clear c9
                try clear c9b0
                try clear c9b1
                try clear c10
                try clear c10b0
                try clear c10b1
                try clear c11
                try clear c13
                try clear c13b0
                try clear c13b1
                try clear c14
                try clear c14b0
                try clear c14b1
                try clear p2
                obtain ⟨kq, x14_11, rfl, HA, HJ11, ⟨mc11, rfl⟩⟩ := hcut
                cases kq with
                | zero => exact absurd HA.out (by simp [inclineref21_Takes.j2])
                | succ kj11 =>
                  have H := HA.out
                  clear HA
                  simp only [inclineref21_Takes.j2] at H
                  by_cases c15 : x14_11 = true
                  · subst c15
                    have H1 : (some 2) = some r := by rw [if_pos rfl] at H; exact H
                    clear H
                    have H := H1
                    clear H1
                    obtain rfl := Option.some.inj H
                    go_wp2
                    go_ret
                    exact ⟨by first | rfl | (simp; done) | (simp [*]; done), by repeat (first | exact Drawn0.refl _ | apply Drawn0.step)⟩
                  · replace c15 := Bool.eq_false_iff.mpr c15
                    subst c15
                    have H1 : (if a0.toList = ([109, 97, 112] : List UInt8) then (some 3) else (some (-1))) = some r := by rw [if_neg (show ¬ (false = true) by decide)] at H; exact H
                    clear H
                    have H := H1
                    clear H1
                    by_cases c16 : a0.toList = ([109, 97, 112] : List UInt8)
                    · rw [if_pos c16] at H
                      have c16b0 : (a0.toList == ([109, 97, 112] : List UInt8)) = true := beq_iff_eq.mpr c16
                      have c16b1 : (a0.toList != ([109, 97, 112] : List UInt8)) = false := bne_eq_false_iff_eq.mpr c16
                      clear c16
                      obtain rfl := Option.some.inj H
                      go_wp2
                      go_ret
                      exact ⟨by first | rfl | (simp; done) | (simp [*]; done), by repeat (first | exact Drawn0.refl _ | apply Drawn0.step)⟩
                    · rw [if_neg c16] at H
                      have c16b0 : (a0.toList == ([109, 97, 112] : List UInt8)) = false := beq_eq_false_iff_ne.mpr c16
                      have c16b1 : (a0.toList != ([109, 97, 112] : List UInt8)) = true := bne_iff_ne.mpr c16
                      obtain rfl := Option.some.inj H
                      go_wp2
                      go_ret
                      exact ⟨by first | rfl | (simp; done) | (simp [*]; done), by repeat (first | exact Drawn0.refl _ | apply Drawn0.step)⟩

end Go.Proofs.YtlfoaaeelcmhiaaDoor.G
end

section
/- Plain laws, on: how many numbers a word takes. -/
namespace Go.Proofs.YtlfoaaeelcmhiaaDoor.Pure
open Go.RowKit Go.Proofs.YtlfoaaeelcmhiaaDoor.G Go.Proofs.YtlfoaaeelcmhiaaDoorW.PrintWords
set_option linter.unusedVariables false
theorem toList_bl (s : ByteArray) : s.toList = bl s := Lib.toList_data s
/-- -1: no command's. -/
def takesL (w : Bytes) : Int :=
  if w = [109, 97, 112] then 3
  else if w = [112, 117, 116] ∨ w = [114, 97, 110, 103, 101] ∨ w = [112, 97, 116, 104] then 2
  else if w = [100, 101, 108] ∨ w = [103, 101, 116] ∨ w = [102, 108, 111, 111, 114] ∨ w = [99, 101, 105, 108] ∨ w = [114, 97, 110, 107] then 1
  else if w = [115, 116, 97, 116, 115] ∨ w = [115, 97, 118, 101] ∨ w = [108, 111, 97, 100] then 0
  else -1
theorem takesL_cases (P : Bytes → Prop) (l : Bytes) (h1 : P [109, 97, 112]) (h2 : P [112, 117, 116]) (h3 : P [114, 97, 110, 103, 101]) (h4 : P [112, 97, 116, 104]) (h5 : P [100, 101, 108]) (h6 : P [103, 101, 116]) (h7 : P [102, 108, 111, 111, 114]) (h8 : P [99, 101, 105, 108]) (h9 : P [114, 97, 110, 107]) (h10 : P [115, 116, 97, 116, 115]) (h11 : P [115, 97, 118, 101]) (h12 : P [108, 111, 97, 100])
    (h : l ≠ [109, 97, 112] → l ≠ [112, 117, 116] → l ≠ [114, 97, 110, 103, 101] → l ≠ [112, 97, 116, 104] → l ≠ [100, 101, 108] → l ≠ [103, 101, 116] → l ≠ [102, 108, 111, 111, 114] → l ≠ [99, 101, 105, 108] → l ≠ [114, 97, 110, 107] → l ≠ [115, 116, 97, 116, 115] → l ≠ [115, 97, 118, 101] → l ≠ [108, 111, 97, 100] → P l) : P l := by
  by_cases e1 : l = [109, 97, 112]; · rw [e1]; exact h1
  by_cases e2 : l = [112, 117, 116]; · rw [e2]; exact h2
  by_cases e3 : l = [114, 97, 110, 103, 101]; · rw [e3]; exact h3
  by_cases e4 : l = [112, 97, 116, 104]; · rw [e4]; exact h4
  by_cases e5 : l = [100, 101, 108]; · rw [e5]; exact h5
  by_cases e6 : l = [103, 101, 116]; · rw [e6]; exact h6
  by_cases e7 : l = [102, 108, 111, 111, 114]; · rw [e7]; exact h7
  by_cases e8 : l = [99, 101, 105, 108]; · rw [e8]; exact h8
  by_cases e9 : l = [114, 97, 110, 107]; · rw [e9]; exact h9
  by_cases e10 : l = [115, 116, 97, 116, 115]; · rw [e10]; exact h10
  by_cases e11 : l = [115, 97, 118, 101]; · rw [e11]; exact h11
  by_cases e12 : l = [108, 111, 97, 100]; · rw [e12]; exact h12
  exact h e1 e2 e3 e4 e5 e6 e7 e8 e9 e10 e11 e12
theorem takesL_range (l : Bytes) : -1 ≤ takesL l ∧ takesL l ≤ 3 := by
  unfold takesL
  repeat' split
  all_goals omega
theorem takesL_len (l : Bytes) (h : takesL l ≠ -1) : l.length ≤ 5 ∧ l ≠ [] ∧ (∀ x ∈ l, 97 ≤ x.toNat ∧ x.toNat ≤ 122) := by
  revert h
  refine takesL_cases (fun l => takesL l ≠ -1 → l.length ≤ 5 ∧ l ≠ [] ∧ (∀ x ∈ l, 97 ≤ x.toNat ∧ x.toNat ≤ 122)) l ?_ ?_ ?_ ?_ ?_ ?_ ?_ ?_ ?_ ?_ ?_ ?_ ?_ <;> try (intro _; decide)
  intro e1 e2 e3 e4 e5 e6 e7 e8 e9 e10 e11 e12 h
  exact absurd (by simp [takesL, e1, e2, e3, e4, e5, e6, e7, e8, e9, e10, e11, e12]) h
theorem takes_is (k : Nat) (hk : 3 ≤ k) (w : ByteArray) : script_takes.f k w = some (if takesL (bl w) = -1 then (0, false) else (takesL (bl w), true)) := by
  obtain ⟨k, rfl⟩ : ∃ m, k = m + 3 := ⟨k - 3, by omega⟩
  unfold script_takes.f
  simp only [script_takes.j0, script_takes.j1, toList_bl]
  generalize bl w = l
  induction l using takesL_cases
  case h e1 e2 e3 e4 e5 e6 e7 e8 e9 e10 e11 e12 => simp [takesL, e1, e2, e3, e4, e5, e6, e7, e8, e9, e10, e11, e12]
  all_goals rfl
theorem refTakes_is (k : Nat) (hk : 4 ≤ k) (w : ByteArray) : inclineref21_Takes.f k w = some (takesL (bl w)) := by
  obtain ⟨k, rfl⟩ : ∃ m, k = m + 4 := ⟨k - 4, by omega⟩
  unfold inclineref21_Takes.f
  simp only [inclineref21_Takes.j0, inclineref21_Takes.j1, inclineref21_Takes.j2, toList_bl]
  generalize bl w = l
  induction l using takesL_cases
  case h e1 e2 e3 e4 e5 e6 e7 e8 e9 e10 e11 e12 => simp [takesL, e1, e2, e3, e4, e5, e6, e7, e8, e9, e10, e11, e12]
  all_goals rfl
end Go.Proofs.YtlfoaaeelcmhiaaDoor.Pure
end

section
/- Plain laws, on: a line's command. -/
namespace Go.Proofs.YtlfoaaeelcmhiaaDoor.Pure
open Go.RowKit Go.Proofs.YtlfoaaeelcmhiaaDoor.G Go.Proofs.YtlfoaaeelcmhiaaDoorW.PrintWords
set_option linter.unusedVariables false
def goodNum (a : Bytes) : Bool := numeral a && decide (val a 0 ≤ 18446744073709551615)
def numOf (a : Bytes) : Int := (val a 0 : Int)
/-- What the words of a line come to. -/
def cmdSpec : List Bytes → Bytes × List Int × Int
  | [] => ([], [], 211)
  | w :: args => if takesL w = -1 then ([], [], 211) else if (args.length : Int) ≠ takesL w then ([], [], 213) else if args.all goodNum = true then (w, args.map numOf, 0) else ([], [], 212)
theorem w64 {i : Int} (h0 : -9223372036854775808 ≤ i) (h1 : i ≤ 9223372036854775807) : wrap64 i = i := by unfold wrap64; omega
theorem rdOf_get {α : Type} (d : α) (l : List α) (i : Nat) (h : i < l.length) : rdOf d l (i : Int) = l[i] := by
  unfold rdOf
  rw [Int.toNat_natCast, List.getD_eq_getElem?_getD, List.getElem?_eq_getElem h]
  rfl
theorem number_good (w : ByteArray) (h0 : 0 < w.size) (hs : w.size ≤ 4294967296) : script_number.f w = some (if goodNum (bl w) = true then (numOf (bl w), true) else (0, false)) := by
  rw [number_is w h0 hs]
  unfold goodNum numOf
  by_cases h : numeral (bl w) = true ∧ val (bl w) 0 ≤ 18446744073709551615
  · rw [if_pos h, if_pos (by rw [h.1, decide_eq_true h.2]; rfl)]
  · rw [if_neg h, if_neg]
    intro h2
    rw [Bool.and_eq_true, decide_eq_true_eq] at h2
    exact h h2
theorem command_loop (args : List ByteArray) (w : ByteArray) (hs : ∀ a ∈ args, 0 < a.size ∧ a.size ≤ 4294967296) (hn : args.length ≤ 1000) : ∀ (d i k : Nat) (acc : List Int), args.length = i + d → d < k → acc.length + d ≤ 1000 →
    script_command.l0 k args (args.length : Int) (i : Int) w acc = some (if ((args.drop i).map bl).all goodNum = true then (w, acc ++ ((args.drop i).map bl).map numOf, 0) else (⟨#[]⟩, [], 212)) := by
  intro d
  induction d with
  | zero =>
    intro i k acc h1 hk ha
    obtain ⟨k, rfl⟩ : ∃ m, k = m + 1 := ⟨k - 1, by omega⟩
    simp only [script_command.l0]
    rw [if_neg (by omega), List.drop_eq_nil_of_le (by omega)]
    simp
  | succ d ih =>
    intro i k acc h1 hk ha
    obtain ⟨k, rfl⟩ : ∃ m, k = m + 1 := ⟨k - 1, by omega⟩
    have hi : i < args.length := by omega
    have hm := hs args[i] (List.getElem_mem hi)
    simp only [script_command.l0]
    rw [if_pos (by omega), if_pos (by omega), if_pos (by omega), rdOf_get _ _ _ hi, number_good _ hm.1 hm.2, Option.bind_some, List.drop_eq_getElem_cons hi]
    simp only [List.map_cons, List.all_cons]
    by_cases hg : goodNum (bl args[i]) = true
    · rw [if_pos hg, hg, Bool.true_and]
      simp only []
      rw [if_pos trivial, if_pos (by omega), w64 (by omega) (by omega), show (i : Int) + 1 = ((i + 1 : Nat) : Int) from rfl, ih (i + 1) k _ (by omega) (by omega) (by simp; omega)]
      simp
    · rw [if_neg hg, Bool.eq_false_iff.2 hg]
      simp
theorem command_is (ws : List ByteArray) (h0 : ws ≠ []) (hs : ∀ a ∈ ws, 0 < a.size ∧ a.size ≤ 4294967296) (hl : ws.length ≤ 10000000) (k : Nat) (hk : 10 ≤ k) :
    script_command.f k ws = some (mk (cmdSpec (ws.map bl)).1, (cmdSpec (ws.map bl)).2.1, (cmdSpec (ws.map bl)).2.2) := by
  cases ws with
  | nil => exact absurd rfl h0
  | cons w args =>
    have hw := rdOf_get ByteArray.empty (w :: args) 0 (by simp)
    rw [show ((0 : Nat) : Int) = 0 from rfl] at hw
    simp only [List.getElem_cons_zero] at hw
    unfold script_command.f
    rw [if_pos (by simp only [List.length_cons]; omega), hw, takes_is k (by omega), Option.bind_some]
    simp only [List.map_cons, cmdSpec]
    by_cases ht : takesL (bl w) = -1
    · rw [if_pos ht, if_pos ht]
      rfl
    · have hr := takesL_range (bl w)
      rw [if_neg ht, if_neg ht]
      simp only [List.length_cons, List.length_map]
      rw [if_pos trivial, w64 (by omega) (by omega)]
      by_cases hn : ((args.length : Int) ≠ takesL (bl w))
      · rw [if_neg (by omega), if_pos hn]
        rfl
      · rw [if_pos (by omega), if_neg hn, if_pos (by omega)]
        have hloop := command_loop args w (fun a ha => hs a (List.mem_cons_of_mem _ ha)) (by omega) args.length 0 k [] (by omega) (by omega) (by simp; omega)
        simp only [List.drop_succ_cons, List.drop_zero] at hloop ⊢
        refine hloop.trans ?_
        by_cases hg : (args.map bl).all goodNum = true
        · rw [if_pos hg, if_pos hg]
          simp [mk_bl]
        · rw [if_neg hg, if_neg hg]
          rfl
end Go.Proofs.YtlfoaaeelcmhiaaDoor.Pure
end

section
/- Plain laws, on: what script.Parse answers, over lists of bytes. -/
namespace Go.Proofs.YtlfoaaeelcmhiaaDoor.Pure
open Go.RowKit Go.Proofs.YtlfoaaeelcmhiaaDoor.G Go.Proofs.YtlfoaaeelcmhiaaDoorW.PrintWords
set_option linter.unusedVariables false
abbrev Cmd := Bytes × List Int
def toS (c : Cmd) : S30 := ⟨mk c.1, c.2⟩
def lineWords (p : Bytes) : List Bytes := (splitL 32 p).filter (· ≠ [])
def isNote : List Bytes → Bool
  | (35 :: _) :: _ => true
  | _ => false
def parseS : List Bytes → List Cmd → Int → List Cmd × Int × Int
  | [], l, _ => (l, 0, 0)
  | p :: ps, l, at_ =>
    if lineWords p = [] then parseS ps l (at_ + 1)
    else if isNote (lineWords p) = true then parseS ps l (at_ + 1)
    else if l.length = 4096 then ([], at_ + 1, 210)
    else if (cmdSpec (lineWords p)).2.2 = 0 then parseS ps (l ++ [((cmdSpec (lineWords p)).1, (cmdSpec (lineWords p)).2.1)]) (at_ + 1)
    else ([], at_ + 1, (cmdSpec (lineWords p)).2.2)
def parseT (t : Bytes) : List Cmd × Int × Int := if 65536 < t.length then ([], 0, 210) else parseS (splitL 10 t) [] 0
theorem splitL_mem (c : UInt8) (l : Bytes) : (∀ p ∈ splitL c l, p.length ≤ l.length) ∧ (splitL c l).length ≤ l.length + 1 := by
  induction l with
  | nil => simp [splitL]
  | cons x xs ih =>
    rw [splitL_cons]
    split
    · refine ⟨fun p hp => ?_, by simp only [List.length_cons]; have := ih.2; omega⟩
      rcases List.mem_cons.1 hp with h | h
      · subst h; simp
      · have := ih.1 p h; simp only [List.length_cons]; omega
    · cases hs : splitL c xs with
      | nil => exact absurd hs (splitL_ne c xs)
      | cons q qs =>
        rw [hs] at ih
        refine ⟨fun p hp => ?_, by have := ih.2; simp only [List.length_cons] at this ⊢; omega⟩
        rcases List.mem_cons.1 hp with h | h
        · subst h; have := ih.1 q List.mem_cons_self; simp only [List.length_cons]; omega
        · have := ih.1 p (List.mem_cons_of_mem _ h); simp only [List.length_cons]; omega
theorem fields_mem (p w : ByteArray) (hw : w ∈ Lib.goFieldsP isBlank p) : 0 < w.size ∧ w.size ≤ p.size := by
  have h := fields_list p
  have hm : bl w ∈ (splitL 32 (bl p)).filter (· ≠ []) := by rw [← h]; exact List.mem_map_of_mem hw
  rw [List.mem_filter] at hm
  have h1 := (splitL_mem 32 (bl p)).1 _ hm.1
  rw [bl_length, bl_length] at h1
  refine ⟨?_, h1⟩
  have h2 : bl w ≠ [] := by simpa using hm.2
  have := List.length_pos_iff.2 h2
  rwa [bl_length] at this
theorem fields_count (p : ByteArray) : (Lib.goFieldsP isBlank p).length ≤ p.size + 1 := by
  have h := congrArg List.length (fields_list p)
  rw [List.length_map] at h
  rw [h]
  have h1 := (splitL_mem 32 (bl p)).2
  rw [bl_length] at h1
  exact Nat.le_trans (List.length_filter_le _ _) h1
theorem note_is (ws : List ByteArray) (h : ws ≠ []) (h0 : 0 < (rdOf ByteArray.empty ws 0).size) : (bt (rdOf ByteArray.empty ws 0) 0 = 35) ↔ isNote (ws.map bl) = true := by
  cases ws with
  | nil => exact absurd rfl h
  | cons w more =>
    have hw := rdOf_get ByteArray.empty (w :: more) 0 (by simp)
    rw [show ((0 : Nat) : Int) = 0 from rfl] at hw
    simp only [List.getElem_cons_zero] at hw
    rw [hw] at h0 ⊢
    have hg := get_bl w 0 h0
    cases hb : bl w with
    | nil => rw [hb] at hg; cases hg
    | cons b l =>
      rw [hb] at hg
      have hbt : bt w 0 = (b.toNat : Int) := by
        have hgb : w.get! 0 = b := by simpa using hg.symm
        have h0' : 0 < w.data.size := h0
        rw [← hgb]
        unfold bt
        rw [dif_pos (show (0 : Int).toNat < w.size from h0)]
        congr 2
        unfold ByteArray.get!
        exact (getElem!_pos w.data 0 h0').symm
      rw [hbt, List.map_cons, hb]
      by_cases hb35 : b = 35
      · subst hb35; exact ⟨fun _ => rfl, fun _ => rfl⟩
      · have h1 : ¬ ((b.toNat : Int) = 35) := fun e => hb35 (UInt8.toNat_inj.1 (show b.toNat = 35 from by omega))
        constructor
        · intro e; exact absurd e h1
        · intro e
          unfold isNote at e
          split at e
          · next h2 => injection h2 with h2 _; injection h2 with h2 _; exact absurd h2 hb35
          · cases e
theorem parseL_is (ps : List ByteArray) (l : List Cmd) (at_ : Int) (hs : ∀ p ∈ ps, p.size ≤ 65536) :
    parseL ps (l.map toS) at_ = some ((parseS (ps.map bl) l at_).1.map toS, (parseS (ps.map bl) l at_).2.1, (parseS (ps.map bl) l at_).2.2) := by
  induction ps generalizing l at_ with
  | nil => rfl
  | cons p ps ih =>
    have hp := hs p List.mem_cons_self
    have ih' := fun l at_ => ih l at_ (fun q hq => hs q (List.mem_cons_of_mem _ hq))
    have hf : (Lib.goFieldsP isBlank p).map bl = lineWords (bl p) := fields_list p
    have hm := fields_mem p
    have hc := fields_count p
    simp only [parseL, List.map_cons, parseS]
    rw [← hf]
    generalize Lib.goFieldsP isBlank p = ws at *
    by_cases h0 : ws.length = 0
    · have hn : ws = [] := List.eq_nil_of_length_eq_zero h0
      rw [if_pos h0, if_pos (show ws.map bl = [] from by rw [hn]; rfl)]
      exact ih' l _
    · have hne : ws ≠ [] := fun e => h0 (by rw [e]; rfl)
      have hw0 : rdOf ByteArray.empty ws 0 ∈ ws := by
        have := rdOf_get ByteArray.empty ws 0 (by omega)
        rw [show ((0 : Nat) : Int) = 0 from rfl] at this
        rw [this]
        exact List.getElem_mem _
      have hsz := (hm _ hw0).1
      rw [if_neg h0, if_neg (show ¬ (rdOf ByteArray.empty ws 0).size = 0 from by omega), if_neg (show ¬ ws.map bl = [] from fun e => hne (List.map_eq_nil_iff.1 e))]
      by_cases h35 : bt (rdOf ByteArray.empty ws 0) 0 = 35
      · rw [if_pos h35, if_pos ((note_is ws hne hsz).1 h35)]
        exact ih' l _
      · rw [if_neg h35, if_neg (fun h => h35 ((note_is ws hne hsz).2 h)), List.length_map]
        by_cases hl : l.length = 4096
        · rw [if_pos hl, if_pos hl]
          rfl
        · rw [if_neg hl, if_neg hl, command_is ws hne (fun a ha => by have := hm a ha; omega) (by omega) parseK (by decide)]
          simp only []
          by_cases he : (cmdSpec (ws.map bl)).2.2 = 0
          · rw [if_pos he, if_pos he]
            have := ih' (l ++ [((cmdSpec (ws.map bl)).1, (cmdSpec (ws.map bl)).2.1)]) (at_ + 1)
            rw [List.map_append] at this
            exact this
          · rw [if_neg he, if_neg he]
            rfl
theorem parse_is (a : ByteArray) : script_Parse.f a = some ((parseT (bl a)).1.map toS, (parseT (bl a)).2.1, (parseT (bl a)).2.2) := by
  unfold script_Parse.f parseT
  rw [bl_length]
  by_cases h : 65536 < a.size
  · rw [if_pos (by omega), if_pos h]
    rfl
  · rw [if_neg (by omega), if_neg h]
    have := parseL_is (pieces 10 a.size a) [] 0 (fun p hp => by have := pieces_size 10 a.size a p hp; omega)
    rw [pieces_list 10 a.size a (Nat.le_refl _)] at this
    exact this
end Go.Proofs.YtlfoaaeelcmhiaaDoor.Pure
end

section
-- Written by a program of this session (wip/gprint.py: the kit's print, with contracts proved by hand)
namespace Go.Proofs.YtlfoaaeelcmhiaaDoor.G
open Go.RowKit Go.Proofs.YtlfoaaeelcmhiaaDoorW.PrintWords Go.Proofs.YtlfoaaeelcmhiaaDoorW.PrintLast Go.Proofs.YtlfoaaeelcmhiaaDoorW.PrintMore
attribute [local go_sem] max2_int min2_int max_two min_two max_three min_three max_four min_four   -- for this text's walks alone
set_option linter.unusedVariables false
set_option linter.unusedSimpArgs false

/-! ### script_Print: function 16 -/
mutual
def script_Print.l0 : Nat → List Int → List (S30) → Int → Int → Option (ByteArray × Int)
  | 0, _, _, _, _ => none
  | k + 1, x4, x14, x15, x16 => if x16 < x15 then (if 0 ≤ x16 then (if x16 < (x14.length : Int) then ((script_takes.f k ((rd_T30 x14 x16).f0)).bind fun bt125 => (if bt125.2 = true then (if (((rd_T30 x14 x16).f1).length : Int) = bt125.1 then (if x4.length + ((rd_T30 x14 x16).f0).size < 140737488355328 then (script_Print.l1 k (x4 ++ bytesOf ((rd_T30 x14 x16).f0)) x14 x15 x16 ((rd_T30 x14 x16).f1) (((rd_T30 x14 x16).f1).length : Int) 0) else (none)) else (some ((⟨#[]⟩ : ByteArray), 213))) else (some ((⟨#[]⟩ : ByteArray), 211)))) else (none)) else (none)) else (if (x4.length : Int) > 65536 then (some ((⟨#[]⟩ : ByteArray), 210)) else (some (strOfNums x4, 0)))
def script_Print.l1 : Nat → List Int → List (S30) → Int → Int → List Int → Int → Int → Option (ByteArray × Int)
  | 0, _, _, _, _, _, _, _ => none
  | k + 1, x4, x14, x15, x16, x40, x41, x42 => if x42 < x41 then (if 0 ≤ x42 then (if x42 < (x40.length : Int) then (if x4.length < 140737488355328 then ((strconv_AppendUint.f (x4 ++ [32]) (rd x40 x42) 10).bind fun t134 => (script_Print.l1 k t134 x14 x15 x16 x40 x41 (wrap64 (x42 + 1)))) else (none)) else (none)) else (none)) else (if x4.length < 140737488355328 then (script_Print.l0 k (x4 ++ [10]) x14 x15 (wrap64 (x16 + 1))) else (none))
end
def script_Print.f (k : Nat) (l0 : List (S30)) : Option (ByteArray × Int) := if (l0.length : Int) > 4096 then (some ((⟨#[]⟩ : ByteArray), 210)) else (script_Print.l0 k ([] : List Int) l0 (l0.length : Int) 0)
theorem script_Print.mono_l : ∀ k, (∀ y0 y1 y2 y3, LeO (script_Print.l0 k y0 y1 y2 y3) (script_Print.l0 (k + 1) y0 y1 y2 y3)) ∧ (∀ y0 y1 y2 y3 y4 y5 y6, LeO (script_Print.l1 k y0 y1 y2 y3 y4 y5 y6) (script_Print.l1 (k + 1) y0 y1 y2 y3 y4 y5 y6))
  | 0 => ⟨fun _ _ _ _ r h => by simp [script_Print.l0] at h, fun _ _ _ _ _ _ _ r h => by simp [script_Print.l1] at h⟩
  | k + 1 => by
    obtain ⟨ih0, ih1⟩ := script_Print.mono_l k
    refine ⟨?_, ?_⟩
    · intro y0 y1 y2 y3
      unfold script_Print.l0
      repeat' first
      | (with_reducible exact ih0 _ _ _ _)
      | (with_reducible exact ih1 _ _ _ _ _ _ _)
      | (with_reducible exact script_takes.mono _ _)
      | (with_reducible exact LeO.refl _)
      | (with_reducible exact LeO.none _)
      | (with_reducible refine LeO.ite ?_ ?_)
      | (with_reducible refine LeO.bind ?_ (fun _ => ?_))
      | exact ih0 _ _ _ _
      | exact ih1 _ _ _ _ _ _ _
      | exact script_takes.mono _ _
      | exact LeO.none _
      | refine LeO.ite ?_ ?_
      | refine LeO.bind ?_ (fun _ => ?_)
    · intro y0 y1 y2 y3 y4 y5 y6
      unfold script_Print.l1
      repeat' first
      | (with_reducible exact ih0 _ _ _ _)
      | (with_reducible exact ih1 _ _ _ _ _ _ _)
      | (with_reducible exact script_takes.mono _ _)
      | (with_reducible exact LeO.refl _)
      | (with_reducible exact LeO.none _)
      | (with_reducible refine LeO.ite ?_ ?_)
      | (with_reducible refine LeO.bind ?_ (fun _ => ?_))
      | exact ih0 _ _ _ _
      | exact ih1 _ _ _ _ _ _ _
      | exact script_takes.mono _ _
      | exact LeO.none _
      | refine LeO.ite ?_ ?_
      | refine LeO.bind ?_ (fun _ => ?_)
theorem script_Print.mono : ∀ a0 k, LeO (script_Print.f k a0) (script_Print.f (k + 1) a0) := by
  intro a0 k
  obtain ⟨ih0, ih1⟩ := script_Print.mono_l k
  unfold script_Print.f
  repeat' first
      | (with_reducible exact ih0 _ _ _ _)
      | (with_reducible exact ih1 _ _ _ _ _ _ _)
      | (with_reducible exact script_takes.mono _ _)
      | (with_reducible exact LeO.refl _)
      | (with_reducible exact LeO.none _)
      | (with_reducible refine LeO.ite ?_ ?_)
      | (with_reducible refine LeO.bind ?_ (fun _ => ?_))
      | exact ih0 _ _ _ _
      | exact ih1 _ _ _ _ _ _ _
      | exact script_takes.mono _ _
      | exact LeO.none _
      | refine LeO.ite ?_ ?_
      | refine LeO.bind ?_ (fun _ => ?_)
set_option maxHeartbeats 8000000 in
set_option maxRecDepth 100000 in
theorem script_Print.calls (k : Nat) (A0 : Option Addr) (c0 : Nat) (l0 : List (S30)) (r1 : ByteArray) (r2 : Int) (w : World) (hr0 : Kd.C k30 w A0 l0.length l0) (hc0 : l0.length ≤ c0) (hT : Tabs w) (h : script_Print.f k l0 = some (r1, r2)) :
    Calls Tryd.prog 16 #[.slice A0 l0.length c0] w fun e w' => e = .returned (.tuple #[.string r1, .int .i64 r2]) ∧ Below w.heap.size w w' := by
  have HT := Aside0.mk hT
  clear hT
  have hu30 := Tryd.underlying30
  have HR0 := Aside0.mk hr0
  have HC0 := Aside0.mk hc0
  clear hr0 hc0
  have HB := Aside0.mk (Below.refl w.heap.size w)
  have H : (if (l0.length : Int) > 4096 then (some ((⟨#[]⟩ : ByteArray), 210)) else (script_Print.l0 k ([] : List Int) l0 (l0.length : Int) 0)) = some (r1, r2) := h
  clear h
  by_cases c2 : (l0.length : Int) > 4096
  · rw [if_pos c2] at H
    have c2b0 : decide (4096 < (l0.length : Int)) = true := decide_eq_true c2
    have c2b1 : decide (4096 < l0.length) = true := decide_eq_true (by omega)
    clear c2
    simp only [Option.some.injEq, Prod.mk.injEq] at H
    obtain ⟨rfl, rfl⟩ := H
    go_enter Tryd.func16, Tryd.ntmps16
    go_wp2
    go_ret2
    exact ⟨by first | rfl | (simp [errW_none, errW_some] <;> rfl) | (simp [*, errW_none, errW_some] <;> rfl), by repeat (first | (with_reducible first | exact HB.out | apply below_alloc | apply pw_below_drewN | apply below_drew1) | exact HB.out)⟩
  · rw [if_neg c2] at H
    have c2b0 : decide (4096 < (l0.length : Int)) = false := decide_eq_false c2
    have c2b1 : decide (4096 < l0.length) = false := decide_eq_false (by omega)
    clear c2
    have H' := Aside0.mk H
    clear H
    go_enter Tryd.func16, Tryd.ntmps16
    go_wp2
    go_loopg [4, 16] k (fun kq v4 v16 w' => ∃ (x4_1 : List Int) (x16_1 : Int), v16 = .int .i64 x16_1 ∧ Aside0 (script_Print.l0 kq x4_1 l0 (l0.length : Int) x16_1 = some (r1, r2)) ∧ Aside0 (kq ≤ k) ∧ Aside0 (Kd.R (Kd.int .u8) 5 w' w.heap.size (fun _ => True) v4 x4_1) ∧ Aside0 (Below w.heap.size w w'))
    case atStart => exact ⟨(([] : List Int)), (0), (by first | rfl | (simp; done) | (simp [*]; done)), H', ⟨Nat.le_refl _⟩, ⟨by first | exact Kd.R_nil _ _ _ _ _ | exact Kd.N_nil _ _ _ _ _ | exact Kd.V_nil _ _ _ _ _ | exact Kd.Q_nil _ _ _ _ _ | exact Kd.S_nil _ _ _ _ _⟩, ⟨by repeat (first | (with_reducible first | exact HB.out | apply below_alloc | apply pw_below_drewN | apply below_drew1) | exact HB.out)⟩⟩
    case round =>
      clear H'
      try clear c1
      try clear c2
      try clear c2b0
      try clear c2b1
      try clear p2
      obtain ⟨x4_1, x16_1, rfl, HA, HK1, HO_4, HB⟩ := hrel
      cases gk with
      | zero => exact absurd HA.out (by simp [script_Print.l0])
      | succ k1 =>
        have H := HA.out
        clear HA
        simp only [script_Print.l0] at H
        by_cases c3 : x16_1 < (l0.length : Int)
        · rw [if_pos c3] at H
          have c3b0 : decide (x16_1 < (l0.length : Int)) = true := decide_eq_true c3
          clear c3
          by_cases c4 : 0 ≤ x16_1
          · rw [if_pos c4] at H
            have c4b0 : decide (0 ≤ x16_1) = true := decide_eq_true c4
            clear c4
            by_cases c5 : x16_1 < (l0.length : Int)
            · rw [if_pos c5] at H
              have c5b0 : decide (x16_1 < (l0.length : Int)) = true := decide_eq_true c5
              clear c5
              replace H := Option.bind_eq_some_iff.mp H
              obtain ⟨⟨t125, t126⟩, A60, H⟩ := H
              replace H : (if t126 = true then (if (((rd_T30 l0 x16_1).f1).length : Int) = t125 then (if x4_1.length + ((rd_T30 l0 x16_1).f0).size < 140737488355328 then (script_Print.l1 k1 (x4_1 ++ bytesOf ((rd_T30 l0 x16_1).f0)) l0 (l0.length : Int) x16_1 ((rd_T30 l0 x16_1).f1) (((rd_T30 l0 x16_1).f1).length : Int) 0) else (none)) else (some ((⟨#[]⟩ : ByteArray), 213))) else (some ((⟨#[]⟩ : ByteArray), 211))) = some (r1, r2) := H
              have A6 := Aside0.mk A60
              clear A60
              by_cases c7 : t126 = true
              · subst c7
                have H1 : (if (((rd_T30 l0 x16_1).f1).length : Int) = t125 then (if x4_1.length + ((rd_T30 l0 x16_1).f0).size < 140737488355328 then (script_Print.l1 k1 (x4_1 ++ bytesOf ((rd_T30 l0 x16_1).f0)) l0 (l0.length : Int) x16_1 ((rd_T30 l0 x16_1).f1) (((rd_T30 l0 x16_1).f1).length : Int) 0) else (none)) else (some ((⟨#[]⟩ : ByteArray), 213))) = some (r1, r2) := by rw [if_pos rfl] at H; exact H
                clear H
                have H := H1
                clear H1
                by_cases c8 : (((rd_T30 l0 x16_1).f1).length : Int) = t125
                · rw [if_pos c8] at H
                  have c8b0 : ((((rd_T30 l0 x16_1).f1).length : Int) == t125) = true := beq_iff_eq.mpr c8
                  have c8b1 : ((((rd_T30 l0 x16_1).f1).length : Int) != t125) = false := bne_eq_false_iff_eq.mpr c8
                  clear c8
                  by_cases c9 : x4_1.length + ((rd_T30 l0 x16_1).f0).size < 140737488355328
                  · rw [if_pos c9] at H
                    have LMc9 := Aside0.mk c9
                    clear c9
                    obtain ⟨y127, hy127⟩ : ∃ y_ : List Int, y_ = (x4_1 ++ bytesOf ((rd_T30 l0 x16_1).f0)) := ⟨_, rfl⟩
                    replace H : (script_Print.l1 k1 y127 l0 (l0.length : Int) x16_1 ((rd_T30 l0 x16_1).f1) (((rd_T30 l0 x16_1).f1).length : Int) 0) = some (r1, r2) := by first | (rw [hy127]; with_reducible exact H) | (have H2_ := (Option.bind_some _ _).symm.trans H; rw [hy127]; with_reducible exact H2_) | (have H2_ := (Option.bind_some _ _).symm.trans H; with_reducible exact H2_) | with_reducible exact H | (rw [hy127]; exact H) | exact H
                    have Ny127 := Aside0.mk hy127
                    clear hy127
                    have H' := Aside0.mk H
                    clear H
                    have p123 : 0 ≤ (x16_1 : Int) := of_decide_eq_true (by first | (with_reducible assumption) | assumption)
                    have q123 : x16_1 < (l0.length : Int) := of_decide_eq_true (by first | (with_reducible assumption) | assumption)
                    obtain ⟨ad123, A123_1, c123_1, e123, hx123_0, hx123_1, hl123_1, hi123_1⟩ := at_T30 HR0.out x16_1 p123 q123
                    cases e123
                    replace hx123_0 := (HB.out.cell (World.block_lt_of_cell? w _ hx123_0)).trans hx123_0
                    replace hx123_1 := (HB.out.cell (World.block_lt_of_cell? w _ hx123_1)).trans hx123_1
                    have HR123_1 := Aside0.mk hi123_1
                    have HC123_1 := Aside0.mk hl123_1
                    clear hi123_1 hl123_1
                    replace p123 := eq_true p123
                    replace q123 := eq_true q123
                    go_wp2_with (first | ((with_reducible refine gate_dst (N := 6) rfl ?_); refine box_event ?hg (N := 6) ?hd (cs := #[.string (⟨#[]⟩ : ByteArray), .slice none 0 0]) (t := 30) ?hr ?_; (case hd => rfl); (case hg => rfl); (case hr => first | (go_simp; done) | (go_simp; rfl)); intro gb124 hg w10 hbox hb; have n0_ := Aside0.mk (Kd.R_below (by (with_reducible repeat (first | apply Kd.R_alloc | apply Kd.R_drewN | apply Kd.R_drew)); exact HO_4.out) hb); have n1_ := Aside0.mk (below_step (by repeat (first | (with_reducible first | exact HB.out | apply below_alloc | apply pw_below_drewN | apply below_drew1) | exact HB.out)) hb); have n2_ := Aside0.mk (hbox); have n3_ := Aside0.mk ((by rw [hg]; exact (below_size (by repeat (first | (with_reducible first | exact HB.out | apply below_alloc | apply pw_below_drewN | apply below_drew1) | exact HB.out))) : w.heap.size ≤ gb124)); have n4_ := Aside0.mk ((by rw [hg]; exact (below_size (by repeat (first | (with_reducible first | exact HB.out | apply below_alloc | apply pw_below_drewN | apply below_drew1) | exact HB.out))) : w.heap.size ≤ gb124)); clear HO_4; clear HB; have HO_4 := n0_; have HB := n1_; have BK124 := n2_; have GW124 := n3_; have GE124 := n4_; clear n0_ n1_ n2_ n3_ n4_; clear hb hbox hg; have hcz11_0 : w10.cell? ⟨gb124, 0, none⟩ = some (.string (⟨#[]⟩ : ByteArray)) := (blk_cell BK124.out 0).trans rfl; have hcz11_1 : w10.cell? ⟨gb124, 1, none⟩ = some (.slice none 0 0) := (blk_cell BK124.out 1).trans rfl; have hfz11_0 := blk_frozen BK124.out 0; have hfz11_1 := blk_frozen BK124.out 1) | ((with_reducible refine gate_callee (f := 27) rfl ?_); refine goesL_ (some 23) rfl rfl Tryd.func27 (by kernel_rfl) rfl #[.string ((rd_T30 l0 x16_1).f0)] rfl (by (try simp only [List.map_toArray, List.map_cons, List.map_nil]); first | done | rfl | (simp only [List.length_drop, List.length_take]; rfl)) ?_; (with_reducible refine (script_takes.calls k1 ((rd_T30 l0 x16_1).f0) t125 true _ A6.out).mono ?_); rintro e w' ⟨rfl, ⟨nd, rfl⟩⟩; refine ⟨_, rfl, ?_⟩) | (at_builtin; refine print_append_str (w0 := w) w.heap.size rfl (.tmp 35) _ 47 9 5 rfl Tryd.underlying47 Tryd.underlying9 info5 u4 x4_1 ((rd_T30 l0 x16_1).f0) rfl rfl ?aO ?aB ?aS ?aL ?_; (case aB => exact (by repeat (first | (with_reducible first | exact HB.out | apply below_alloc | apply pw_below_drewN | apply below_drew1 | refine below_set ?_ GE124.out) | exact HB.out))); (case aO => exact (Kd.own_of_R (by (with_reducible repeat (first | apply Kd.R_alloc | apply Kd.R_drewN | apply Kd.R_drew)); exact Kd.R_mono (Kd.R_far (p := ⟨gb124, 1, none⟩) (Kd.R_far (p := ⟨gb124, 0, none⟩) (Kd.R_types HO_4.out BK124.out (by decide)) (fun _ hk => hk.2) (.string ((rd_T30 l0 x16_1).f0))) (fun _ hk => hk.2) (.slice A123_1 ((rd_T30 l0 x16_1).f1).length c123_1)) (fun _ hk => trivial)))); (case aS => exact (below_size (by repeat (first | (with_reducible first | exact HB.out | apply below_alloc | apply pw_below_drewN | apply below_drew1 | refine below_set ?_ GE124.out) | exact HB.out)))); (case aL => have := LMc9.out; omega); intro v128 w12 ho0 hb hg; have ho := Kd.R_of_own (h1 := fun _ => rfl) (ok := fun _ => True) ho0 (fun _ _ => trivial); clear ho0; have hat := True.intro; rw [← Ny127.out] at ho; change Kd.R (Kd.int .u8) 5 w12 w.heap.size (fun _ => True) v128 y127 at ho; have n0_ := Aside0.mk (blk_grown (g := gb124) (o := .cells #[.string ((rd_T30 l0 x16_1).f0), .slice A123_1 ((rd_T30 l0 x16_1).f1).length c123_1] 30 (0, 0)) (by (with_reducible repeat (first | refine blk_drewN ?_ _ | refine blk_drew ?_ | refine blk_alloc ?_ _)); refine blk_put (cs := #[.string ((rd_T30 l0 x16_1).f0), .slice none 0 0]) ?_ 1 _ rfl; (with_reducible repeat (first | refine blk_drewN ?_ _ | refine blk_drew ?_ | refine blk_alloc ?_ _)); refine blk_put (cs := #[.string (⟨#[]⟩ : ByteArray), .slice none 0 0]) ?_ 0 _ rfl; (with_reducible repeat (first | refine blk_drewN ?_ _ | refine blk_drew ?_ | refine blk_alloc ?_ _)); exact BK124.out) hg (Kd.R_ne HO_4.out BK124.out (by decide))); have n1_ := Aside0.mk (hb); have n2_ := Aside0.mk (ho); clear BK124; clear HB; clear HO_4; have BK124 := n0_; have HB := n1_; have HO129 := n2_; clear n0_ n1_ n2_; clear ho hb hg hat; have hcz13_0 : w12.cell? ⟨gb124, 0, none⟩ = some (.string ((rd_T30 l0 x16_1).f0)) := (blk_cell BK124.out 0).trans rfl; have hcz13_1 : w12.cell? ⟨gb124, 1, none⟩ = some (.slice A123_1 ((rd_T30 l0 x16_1).f1).length c123_1) := (blk_cell BK124.out 1).trans rfl; have hfz13_0 := blk_frozen BK124.out 0; have hfz13_1 := blk_frozen BK124.out 1))
                    go_loopg [4, 42] k1 (fun kq v4 v42 w' => ∃ (x4_2 : List Int) (x42_2 : Int), v42 = .int .i64 x42_2 ∧ Aside0 (script_Print.l1 kq x4_2 l0 (l0.length : Int) x16_1 ((rd_T30 l0 x16_1).f1) (((rd_T30 l0 x16_1).f1).length : Int) x42_2 = some (r1, r2)) ∧ Aside0 (kq ≤ k1) ∧ Aside0 (Kd.R (Kd.int .u8) 5 w' w.heap.size (fun _ => True) v4 x4_2) ∧ Aside0 (w'.heap[gb124]? = some (.cells #[.string ((rd_T30 l0 x16_1).f0), (.slice A123_1 ((rd_T30 l0 x16_1).f1).length c123_1)] 30 (0, 0))) ∧ Aside0 (Below w.heap.size w w'))
                    case atStart => exact ⟨(y127), (0), (by first | rfl | (simp; done) | (simp [*]; done)), H', ⟨Nat.le_refl _⟩, ⟨by (with_reducible repeat (first | apply Kd.R_alloc | apply Kd.R_drewN | apply Kd.R_drew)); exact HO129.out⟩, ⟨by (with_reducible repeat (first | refine blk_drewN ?_ _ | refine blk_drew ?_ | refine blk_alloc ?_ _)); exact BK124.out⟩, ⟨by repeat (first | (with_reducible first | exact HB.out | apply below_alloc | apply pw_below_drewN | apply below_drew1 | refine below_set ?_ GE124.out) | exact HB.out)⟩⟩
                    case round =>
                      clear H'
                      try clear c1
                      try clear p1
                      try clear q1
                      try clear hx1
                      try clear c2
                      try clear c2b0
                      try clear c2b1
                      try clear p2
                      try clear c3
                      try clear c3b0
                      try clear c4
                      try clear c4b0
                      try clear c5
                      try clear c5b0
                      try clear c7
                      try clear c8
                      try clear c8b0
                      try clear c8b1
                      try clear c9
                      try clear c12
                      try clear p12
                      try clear q12
                      try clear hx12
                      try clear hcz11_0
                      try clear hcz11_1
                      try clear hcz13_0
                      try clear hcz13_1
                      try clear hfz11_0
                      try clear hfz11_1
                      try clear hfz13_0
                      try clear hfz13_1
                      try clear hx123_0
                      try clear hx123_1
                      try clear p123
                      try clear p2
                      try clear q123
                      obtain ⟨x4_2, x42_2, rfl, HA, HK2, HO_4, BK124, HB⟩ := hrel
                      cases gk with
                      | zero => exact absurd HA.out (by simp [script_Print.l1])
                      | succ k2 =>
                        have H := HA.out
                        clear HA
                        simp only [script_Print.l1] at H
                        by_cases c14 : x42_2 < (((rd_T30 l0 x16_1).f1).length : Int)
                        · rw [if_pos c14] at H
                          have c14b0 : decide (x42_2 < (((rd_T30 l0 x16_1).f1).length : Int)) = true := decide_eq_true c14
                          clear c14
                          by_cases c15 : 0 ≤ x42_2
                          · rw [if_pos c15] at H
                            have c15b0 : decide (0 ≤ x42_2) = true := decide_eq_true c15
                            clear c15
                            by_cases c16 : x42_2 < (((rd_T30 l0 x16_1).f1).length : Int)
                            · rw [if_pos c16] at H
                              have c16b0 : decide (x42_2 < (((rd_T30 l0 x16_1).f1).length : Int)) = true := decide_eq_true c16
                              clear c16
                              by_cases c17 : x4_2.length < 140737488355328
                              · rw [if_pos c17] at H
                                have LMc17 := Aside0.mk c17
                                clear c17
                                obtain ⟨y131, hy131⟩ : ∃ y_ : List Int, y_ = (x4_2 ++ [32]) := ⟨_, rfl⟩
                                replace H : ((strconv_AppendUint.f y131 (rd ((rd_T30 l0 x16_1).f1) x42_2) 10).bind fun t134 => (script_Print.l1 k2 t134 l0 (l0.length : Int) x16_1 ((rd_T30 l0 x16_1).f1) (((rd_T30 l0 x16_1).f1).length : Int) (wrap64 (x42_2 + 1)))) = some (r1, r2) := by first | (rw [hy131]; with_reducible exact H) | (have H2_ := (Option.bind_some _ _).symm.trans H; rw [hy131]; with_reducible exact H2_) | (have H2_ := (Option.bind_some _ _).symm.trans H; with_reducible exact H2_) | with_reducible exact H | (rw [hy131]; exact H) | exact H
                                have Ny131 := Aside0.mk hy131
                                clear hy131
                                replace H := Option.bind_eq_some_iff.mp H
                                obtain ⟨t134, A180, H⟩ := H
                                replace H : (script_Print.l1 k2 t134 l0 (l0.length : Int) x16_1 ((rd_T30 l0 x16_1).f1) (((rd_T30 l0 x16_1).f1).length : Int) (wrap64 (x42_2 + 1))) = some (r1, r2) := H
                                have A18 := Aside0.mk A180
                                clear A180
                                have H' := Aside0.mk H
                                clear H
                                have p130 : 0 ≤ (x42_2 : Int) := of_decide_eq_true (by first | (with_reducible assumption) | assumption)
                                have q130 : x42_2 < (((rd_T30 l0 x16_1).f1).length : Int) := of_decide_eq_true (by first | (with_reducible assumption) | assumption)
                                obtain ⟨ad130, e130, hx130_0⟩ := Kd.at_int HR123_1.out x42_2 p130 q130
                                cases e130
                                replace hx130_0 := (HB.out.cell (World.block_lt_of_cell? w _ hx130_0)).trans hx130_0
                                replace p130 := eq_true p130
                                replace q130 := eq_true q130
                                go_wp2_with (first | ((with_reducible refine gate_builtin (b := .append) (xs := #[.tmp 46, .tmp 47]) rfl ?_); at_builtin; refine Kd.R_append (Kd.int .u8) (w0 := w) w.heap.size rfl (.tmp 46) (.tmp 47) 47 5 (.int .u8 0) 1 rfl Tryd.underlying47 info5 rfl (by decide) (by omega) u4 x4_2 32 [.int .u8 32] (fun _ => True) (fun _ => False) rfl rfl ?aP (fun _ hk => hk.elim) ?aF ?aO ?aB ?aS ?aL ?_; (case aP => exact rfl); (case aB => exact (by repeat (first | (with_reducible first | exact HB.out | apply below_alloc | apply pw_below_drewN | apply below_drew1 | refine below_set ?_ GE124.out) | exact HB.out))); (case aF => exact (fun _ _ => trivial)); (case aO => exact (by (with_reducible repeat (first | apply Kd.R_alloc | apply Kd.R_drewN | apply Kd.R_drew)); exact HO_4.out)); (case aS => exact (below_size (by repeat (first | (with_reducible first | exact HB.out | apply below_alloc | apply pw_below_drewN | apply below_drew1 | refine below_set ?_ GE124.out) | exact HB.out)))); (case aL => have := LMc17.out; omega); intro v132 w19 ho hb hg hat; rw [← Ny131.out] at ho; have n0_ := Aside0.mk (blk_grown (g := gb124) (o := .cells #[.string ((rd_T30 l0 x16_1).f0), .slice (some ad130) ((rd_T30 l0 x16_1).f1).length c123_1] 30 (0, 0)) (by (with_reducible repeat (first | refine blk_drewN ?_ _ | refine blk_drew ?_ | refine blk_alloc ?_ _)); exact BK124.out) hg (Kd.R_ne HO_4.out BK124.out (by decide))); have n1_ := Aside0.mk (hb); have n2_ := Aside0.mk (ho); clear BK124; clear HB; clear HO_4; have BK124 := n0_; have HB := n1_; have HO133 := n2_; clear n0_ n1_ n2_; clear ho hb hg hat; obtain ⟨Ao20, co20, eo20⟩ := Kd.R_slice HO133.out; subst eo20) | ((with_reducible refine gate_callee (f := 28) rfl ?_); refine goesL_ (some 50) rfl rfl Tryd.func28 (by kernel_rfl) rfl #[.slice Ao20 y131.length co20, .int .u64 (rd ((rd_T30 l0 x16_1).f1) x42_2), .int .i64 10] rfl (by (try simp only [List.map_toArray, List.map_cons, List.map_nil]); first | done | rfl | (simp only [List.length_drop, List.length_take]; rfl)) ?_; (with_reducible refine (strconv_AppendUint.calls (fun k_ => some k_ = (.slice Ao20 y131.length co20 : Value).ownBlock) (.slice Ao20 y131.length co20) y131 (rd ((rd_T30 l0 x16_1).f1) x42_2) 10 t134 w _ ?side1 ?side2 HT.out A18.out).mono ?_); (case side1 => repeat (first | (with_reducible first | exact HB.out | apply below_alloc | apply pw_below_drewN | apply below_drew1 | refine below_set ?_ GE124.out) | exact HB.out)); (case side2 => exact Kd.R_tight rfl HO133.out); rintro e w21 ⟨v135, rfl, ho0, hb, hkp⟩; refine ⟨_, rfl, ?_⟩; have n0_ := Aside0.mk (blk_others (by (with_reducible repeat (first | refine blk_drewN ?_ _ | refine blk_drew ?_ | refine blk_alloc ?_ _)); exact BK124.out) hkp (by decide)); have n1_ := Aside0.mk (Kd.R_mono (ok' := fun k_ => True) ho0 (fun k_ hk_ => trivial)); have n2_ := Aside0.mk (hb); clear BK124; clear HB; clear HO133; have BK124 := n0_; have HO136 := n1_; have HB := n2_; clear n0_ n1_ n2_; (try clear hb); (try clear hkp); (try clear ho0)))
                                go_roundg k2
                                case measure => have := HK1.out; have := HK2.out; omega
                                case rel => exact ⟨(t134), (wrap64 (x42_2 + 1)), (by first | rfl | (simp; done) | (simp [*]; done)), H', ⟨by have := HK1.out; have := HK2.out; omega⟩, ⟨by (with_reducible repeat (first | apply Kd.R_alloc | apply Kd.R_drewN | apply Kd.R_drew)); exact HO136.out⟩, ⟨by (with_reducible repeat (first | refine blk_drewN ?_ _ | refine blk_drew ?_ | refine blk_alloc ?_ _)); exact BK124.out⟩, ⟨by repeat (first | (with_reducible first | exact HB.out | apply below_alloc | apply pw_below_drewN | apply below_drew1 | refine below_set ?_ GE124.out) | exact HB.out)⟩⟩
                              · rw [if_neg c17] at H
                                exact absurd H (by simp)
                            · rw [if_neg c16] at H
                              exact absurd H (by simp)
                          · rw [if_neg c15] at H
                            exact absurd H (by simp)
                        · rw [if_neg c14] at H
                          have c14b0 : decide (x42_2 < (((rd_T30 l0 x16_1).f1).length : Int)) = false := decide_eq_false c14
                          clear c14
                          by_cases c22 : x4_2.length < 140737488355328
                          · rw [if_pos c22] at H
                            have LMc22 := Aside0.mk c22
                            clear c22
                            obtain ⟨y137, hy137⟩ : ∃ y_ : List Int, y_ = (x4_2 ++ [10]) := ⟨_, rfl⟩
                            replace H : (script_Print.l0 k2 y137 l0 (l0.length : Int) (wrap64 (x16_1 + 1))) = some (r1, r2) := by first | (rw [hy137]; with_reducible exact H) | (have H2_ := (Option.bind_some _ _).symm.trans H; rw [hy137]; with_reducible exact H2_) | (have H2_ := (Option.bind_some _ _).symm.trans H; with_reducible exact H2_) | with_reducible exact H | (rw [hy137]; exact H) | exact H
                            have Ny137 := Aside0.mk hy137
                            clear hy137
                            have H' := Aside0.mk H
                            clear H
                            go_wp2_with (first | ((with_reducible refine gate_builtin (b := .append) (xs := #[.tmp 52, .tmp 53]) rfl ?_); at_builtin; refine Kd.R_append (Kd.int .u8) (w0 := w) w.heap.size rfl (.tmp 52) (.tmp 53) 47 5 (.int .u8 0) 1 rfl Tryd.underlying47 info5 rfl (by decide) (by omega) u4 x4_2 10 [.int .u8 10] (fun _ => True) (fun _ => False) rfl rfl ?aP (fun _ hk => hk.elim) ?aF ?aO ?aB ?aS ?aL ?_; (case aP => exact rfl); (case aB => exact (by repeat (first | (with_reducible first | exact HB.out | apply below_alloc | apply pw_below_drewN | apply below_drew1 | refine below_set ?_ GE124.out) | exact HB.out))); (case aF => exact (fun _ _ => trivial)); (case aO => exact (by (with_reducible repeat (first | apply Kd.R_alloc | apply Kd.R_drewN | apply Kd.R_drew)); exact HO_4.out)); (case aS => exact (below_size (by repeat (first | (with_reducible first | exact HB.out | apply below_alloc | apply pw_below_drewN | apply below_drew1 | refine below_set ?_ GE124.out) | exact HB.out)))); (case aL => have := LMc22.out; omega); intro v138 w23 ho hb hg hat; rw [← Ny137.out] at ho; have n0_ := Aside0.mk (blk_grown (g := gb124) (o := .cells #[.string ((rd_T30 l0 x16_1).f0), .slice A123_1 ((rd_T30 l0 x16_1).f1).length c123_1] 30 (0, 0)) (by (with_reducible repeat (first | refine blk_drewN ?_ _ | refine blk_drew ?_ | refine blk_alloc ?_ _)); exact BK124.out) hg (Kd.R_ne HO_4.out BK124.out (by decide))); have n1_ := Aside0.mk (hb); have n2_ := Aside0.mk (ho); clear BK124; clear HB; clear HO_4; have BK124 := n0_; have HB := n1_; have HO139 := n2_; clear n0_ n1_ n2_; clear ho hb hg hat))
                            go_roundg k2
                            case measure => have := HK1.out; have := HK2.out; omega
                            case rel => exact ⟨(y137), (wrap64 (x16_1 + 1)), (by first | rfl | (simp; done) | (simp [*]; done)), H', ⟨by have := HK1.out; have := HK2.out; omega⟩, ⟨by (with_reducible repeat (first | apply Kd.R_alloc | apply Kd.R_drewN | apply Kd.R_drew)); exact HO139.out⟩, ⟨by repeat (first | (with_reducible first | exact HB.out | apply below_alloc | apply pw_below_drewN | apply below_drew1 | refine below_set ?_ GE124.out) | exact HB.out)⟩⟩
                          · rw [if_neg c22] at H
                            exact absurd H (by simp)
                  · rw [if_neg c9] at H
                    exact absurd H (by simp)
                · rw [if_neg c8] at H
                  have c8b0 : ((((rd_T30 l0 x16_1).f1).length : Int) == t125) = false := beq_eq_false_iff_ne.mpr c8
                  have c8b1 : ((((rd_T30 l0 x16_1).f1).length : Int) != t125) = true := bne_iff_ne.mpr c8
                  simp only [Option.some.injEq, Prod.mk.injEq] at H
                  obtain ⟨rfl, rfl⟩ := H
                  have p123 : 0 ≤ (x16_1 : Int) := of_decide_eq_true (by first | (with_reducible assumption) | assumption)
                  have q123 : x16_1 < (l0.length : Int) := of_decide_eq_true (by first | (with_reducible assumption) | assumption)
                  obtain ⟨ad123, A123_1, c123_1, e123, hx123_0, hx123_1, hl123_1, hi123_1⟩ := at_T30 HR0.out x16_1 p123 q123
                  cases e123
                  replace hx123_0 := (HB.out.cell (World.block_lt_of_cell? w _ hx123_0)).trans hx123_0
                  replace hx123_1 := (HB.out.cell (World.block_lt_of_cell? w _ hx123_1)).trans hx123_1
                  have HR123_1 := Aside0.mk hi123_1
                  have HC123_1 := Aside0.mk hl123_1
                  clear hi123_1 hl123_1
                  replace p123 := eq_true p123
                  replace q123 := eq_true q123
                  go_wp2_with (first | ((with_reducible refine gate_dst (N := 6) rfl ?_); refine box_event ?hg (N := 6) ?hd (cs := #[.string (⟨#[]⟩ : ByteArray), .slice none 0 0]) (t := 30) ?hr ?_; (case hd => rfl); (case hg => rfl); (case hr => first | (go_simp; done) | (go_simp; rfl)); intro gb124 hg w24 hbox hb; have n0_ := Aside0.mk (Kd.R_below (by (with_reducible repeat (first | apply Kd.R_alloc | apply Kd.R_drewN | apply Kd.R_drew)); exact HO_4.out) hb); have n1_ := Aside0.mk (below_step (by repeat (first | (with_reducible first | exact HB.out | apply below_alloc | apply pw_below_drewN | apply below_drew1) | exact HB.out)) hb); have n2_ := Aside0.mk (hbox); have n3_ := Aside0.mk ((by rw [hg]; exact (below_size (by repeat (first | (with_reducible first | exact HB.out | apply below_alloc | apply pw_below_drewN | apply below_drew1) | exact HB.out))) : w.heap.size ≤ gb124)); have n4_ := Aside0.mk ((by rw [hg]; exact (below_size (by repeat (first | (with_reducible first | exact HB.out | apply below_alloc | apply pw_below_drewN | apply below_drew1) | exact HB.out))) : w.heap.size ≤ gb124)); clear HO_4; clear HB; have HO_4 := n0_; have HB := n1_; have BK124 := n2_; have GW124 := n3_; have GE124 := n4_; clear n0_ n1_ n2_ n3_ n4_; clear hb hbox hg; have hcz25_0 : w24.cell? ⟨gb124, 0, none⟩ = some (.string (⟨#[]⟩ : ByteArray)) := (blk_cell BK124.out 0).trans rfl; have hcz25_1 : w24.cell? ⟨gb124, 1, none⟩ = some (.slice none 0 0) := (blk_cell BK124.out 1).trans rfl; have hfz25_0 := blk_frozen BK124.out 0; have hfz25_1 := blk_frozen BK124.out 1) | ((with_reducible refine gate_callee (f := 27) rfl ?_); refine goesL_ (some 23) rfl rfl Tryd.func27 (by kernel_rfl) rfl #[.string ((rd_T30 l0 x16_1).f0)] rfl (by (try simp only [List.map_toArray, List.map_cons, List.map_nil]); first | done | rfl | (simp only [List.length_drop, List.length_take]; rfl)) ?_; (with_reducible refine (script_takes.calls k1 ((rd_T30 l0 x16_1).f0) t125 true _ A6.out).mono ?_); rintro e w' ⟨rfl, ⟨nd, rfl⟩⟩; refine ⟨_, rfl, ?_⟩))
                  go_ret2
                  exact ⟨by first | rfl | (simp [errW_none, errW_some] <;> rfl) | (simp [*, errW_none, errW_some] <;> rfl), by repeat (first | (with_reducible first | exact HB.out | apply below_alloc | apply pw_below_drewN | apply below_drew1 | refine below_set ?_ GE124.out) | exact HB.out)⟩
              · replace c7 := Bool.eq_false_iff.mpr c7
                subst c7
                have H1 : (some ((⟨#[]⟩ : ByteArray), 211)) = some (r1, r2) := by rw [if_neg (show ¬ (false = true) by decide)] at H; exact H
                clear H
                have H := H1
                clear H1
                simp only [Option.some.injEq, Prod.mk.injEq] at H
                obtain ⟨rfl, rfl⟩ := H
                have p123 : 0 ≤ (x16_1 : Int) := of_decide_eq_true (by first | (with_reducible assumption) | assumption)
                have q123 : x16_1 < (l0.length : Int) := of_decide_eq_true (by first | (with_reducible assumption) | assumption)
                obtain ⟨ad123, A123_1, c123_1, e123, hx123_0, hx123_1, hl123_1, hi123_1⟩ := at_T30 HR0.out x16_1 p123 q123
                cases e123
                replace hx123_0 := (HB.out.cell (World.block_lt_of_cell? w _ hx123_0)).trans hx123_0
                replace hx123_1 := (HB.out.cell (World.block_lt_of_cell? w _ hx123_1)).trans hx123_1
                have HR123_1 := Aside0.mk hi123_1
                have HC123_1 := Aside0.mk hl123_1
                clear hi123_1 hl123_1
                replace p123 := eq_true p123
                replace q123 := eq_true q123
                go_wp2_with (first | ((with_reducible refine gate_dst (N := 6) rfl ?_); refine box_event ?hg (N := 6) ?hd (cs := #[.string (⟨#[]⟩ : ByteArray), .slice none 0 0]) (t := 30) ?hr ?_; (case hd => rfl); (case hg => rfl); (case hr => first | (go_simp; done) | (go_simp; rfl)); intro gb124 hg w26 hbox hb; have n0_ := Aside0.mk (Kd.R_below (by (with_reducible repeat (first | apply Kd.R_alloc | apply Kd.R_drewN | apply Kd.R_drew)); exact HO_4.out) hb); have n1_ := Aside0.mk (below_step (by repeat (first | (with_reducible first | exact HB.out | apply below_alloc | apply pw_below_drewN | apply below_drew1) | exact HB.out)) hb); have n2_ := Aside0.mk (hbox); have n3_ := Aside0.mk ((by rw [hg]; exact (below_size (by repeat (first | (with_reducible first | exact HB.out | apply below_alloc | apply pw_below_drewN | apply below_drew1) | exact HB.out))) : w.heap.size ≤ gb124)); have n4_ := Aside0.mk ((by rw [hg]; exact (below_size (by repeat (first | (with_reducible first | exact HB.out | apply below_alloc | apply pw_below_drewN | apply below_drew1) | exact HB.out))) : w.heap.size ≤ gb124)); clear HO_4; clear HB; have HO_4 := n0_; have HB := n1_; have BK124 := n2_; have GW124 := n3_; have GE124 := n4_; clear n0_ n1_ n2_ n3_ n4_; clear hb hbox hg; have hcz27_0 : w26.cell? ⟨gb124, 0, none⟩ = some (.string (⟨#[]⟩ : ByteArray)) := (blk_cell BK124.out 0).trans rfl; have hcz27_1 : w26.cell? ⟨gb124, 1, none⟩ = some (.slice none 0 0) := (blk_cell BK124.out 1).trans rfl; have hfz27_0 := blk_frozen BK124.out 0; have hfz27_1 := blk_frozen BK124.out 1) | ((with_reducible refine gate_callee (f := 27) rfl ?_); refine goesL_ (some 23) rfl rfl Tryd.func27 (by kernel_rfl) rfl #[.string ((rd_T30 l0 x16_1).f0)] rfl (by (try simp only [List.map_toArray, List.map_cons, List.map_nil]); first | done | rfl | (simp only [List.length_drop, List.length_take]; rfl)) ?_; (with_reducible refine (script_takes.calls k1 ((rd_T30 l0 x16_1).f0) t125 false _ A6.out).mono ?_); rintro e w' ⟨rfl, ⟨nd, rfl⟩⟩; refine ⟨_, rfl, ?_⟩))
                go_ret2
                exact ⟨by first | rfl | (simp [errW_none, errW_some] <;> rfl) | (simp [*, errW_none, errW_some] <;> rfl), by repeat (first | (with_reducible first | exact HB.out | apply below_alloc | apply pw_below_drewN | apply below_drew1 | refine below_set ?_ GE124.out) | exact HB.out)⟩
            · rw [if_neg c5] at H
              exact absurd H (by simp)
          · rw [if_neg c4] at H
            exact absurd H (by simp)
        · rw [if_neg c3] at H
          have c3b0 : decide (x16_1 < (l0.length : Int)) = false := decide_eq_false c3
          clear c3
          by_cases c28 : (x4_1.length : Int) > 65536
          · rw [if_pos c28] at H
            have c28b0 : decide (65536 < (x4_1.length : Int)) = true := decide_eq_true c28
            have c28b1 : decide (65536 < x4_1.length) = true := decide_eq_true (by omega)
            clear c28
            simp only [Option.some.injEq, Prod.mk.injEq] at H
            obtain ⟨rfl, rfl⟩ := H
            obtain ⟨Ao29, co29, eo29⟩ := Kd.R_slice HO_4.out
            subst eo29
            go_wp2
            go_ret2
            exact ⟨by first | rfl | (simp [errW_none, errW_some] <;> rfl) | (simp [*, errW_none, errW_some] <;> rfl), by repeat (first | (with_reducible first | exact HB.out | apply below_alloc | apply pw_below_drewN | apply below_drew1) | exact HB.out)⟩
          · rw [if_neg c28] at H
            have c28b0 : decide (65536 < (x4_1.length : Int)) = false := decide_eq_false c28
            have c28b1 : decide (65536 < x4_1.length) = false := decide_eq_false (by omega)
            clear c28
            simp only [Option.some.injEq, Prod.mk.injEq] at H
            obtain ⟨rfl, rfl⟩ := H
            obtain ⟨Ao30, co30, eo30⟩ := Kd.R_slice HO_4.out
            subst eo30
            have hcv31 := own_string (P := Tryd.prog) Tryd.underlying47 Tryd.underlying5 Tryd.underlying9 (Kd.own_of_R HO_4.out)
            go_wp2
            go_ret2
            exact ⟨by first | rfl | (simp [errW_none, errW_some] <;> rfl) | (simp [*, errW_none, errW_some] <;> rfl), by repeat (first | (with_reducible first | exact HB.out | apply below_alloc | apply pw_below_drewN | apply below_drew1) | exact HB.out)⟩

end Go.Proofs.YtlfoaaeelcmhiaaDoor.G
end

section
/- A row of bytes that '[]byte(s)' made: it bears a conversion's mark behind its cells, and is appended to like any other. -/
namespace Go.Proofs.YtlfoaaeelcmhiaaDoor.G
open Go.RowKit Go.Proofs.YtlfoaaeelcmhiaaDoorW.PrintWords Go.Proofs.YtlfoaaeelcmhiaaDoorW.PrintLast Go.Proofs.YtlfoaaeelcmhiaaDoorW.PrintMore
set_option linter.unusedVariables false
section
variable {P : Program}
/-- Cells are stored into a row whose frozen range ends ahead of them, or begins behind the row. -/
theorem store_mark (g o : Nat) (t : TypeId) (fz : Nat × Nat) : ∀ (vs : List Value) (i : Nat) (cur : Array Value) (w : World), w.heap[g]? = some (.cells cur t fz) → (fz.2 ≤ o + i ∨ cur.size ≤ fz.1) → o + i + vs.length ≤ cur.size → (∀ v ∈ vs, v.oneCell' = true) →
    (storeCells ⟨g, o, none⟩ vs i).run P w = .ok () (w.setRow g (cur.toList.take (o + i) ++ vs ++ cur.toList.drop (o + i + vs.length)).toArray)
  | [], i, cur, w, hg, _, _, _ => by
    simp only [storeCells, List.append_nil, List.length_nil, Nat.add_zero, List.take_append_drop, Array.toArray_toList]
    rw [setRow_self w g cur t fz hg]
    rfl
  | v :: rest, i, cur, w, hg, hfz, hl, h1 => by
    have hi : o + i < cur.size := by simp at hl; omega
    have hadd : (⟨g, o, none⟩ : Addr).add i = ⟨g, o + i, none⟩ := by unfold Addr.add; split <;> simp_all
    have hcell : w.cell? ⟨g, o + i, none⟩ = some cur[o + i] := by simp [World.cell?, hg, hi]
    have hfro : w.frozen? ⟨g, o + i, none⟩ = false := by
      obtain ⟨lo, hi'⟩ := fz
      simp only [World.frozen?, hg, Bool.and_eq_false_iff, decide_eq_false_iff_not]
      simp only at hfz
      omega
    have hst : (store ((⟨g, o, none⟩ : Addr).add i) v).run P w = .ok () (w.setRow g (cur.setIfInBounds (o + i) v)) := by
      rw [hadd, run_store P w _ v _ (h1 v (by simp)), hcell]
      simp [hfro, setCell_eq_setRow w g (o + i) cur t fz v hg]
    have ih := store_mark g o t fz rest (i + 1) (cur.setIfInBounds (o + i) v) (w.setRow g (cur.setIfInBounds (o + i) v)) (setRow_heap w g cur _ t _ hg) (by simp; omega) (by simp at hl ⊢; omega) (fun x hx => h1 x (by simp [hx]))
    simp only [storeCells, Sem.run_bind, hst, Result.andThen_ok, ih, setRow_setRow]
    congr 3
    have e := list_seg_step cur.toList (o + i) v rest (by simp at hl ⊢; omega)
    simpa [Array.toList_setIfInBounds, Nat.add_assoc] using e
end
/-- A row of these bytes, the call's own, marked or not. -/
def MarkRow (w : World) (base : Nat) (v : Value) (l : List UInt8) : Prop :=
  ∃ g cap cur fz, v = .slice (some ⟨g, 0, none⟩) l.length cap ∧ base ≤ g ∧ w.heap[g]? = some (.cells cur 5 fz) ∧ (fz.2 ≤ l.length ∨ cur.size ≤ fz.1) ∧ l.length ≤ cap ∧ cap ≤ maxLen ∧ cur.size = cap ∧ cur.toList.take l.length = Lib.byteCells l
theorem MarkRow.step {w w' : World} {base : Nat} {v : Value} {l : List UInt8} (h : MarkRow w base v l) (hb : Below w.heap.size w w') : MarkRow w' base v l := by
  obtain ⟨g, cap, cur, fz, e, hbg, hg, rest⟩ := h
  exact ⟨g, cap, cur, fz, e, hbg, (hb.block g (Array.getElem?_eq_some_iff.1 hg).1).trans hg, rest⟩
theorem MarkRow.lower {w : World} {base base' : Nat} {v : Value} {l : List UInt8} (h : MarkRow w base v l) (hb : base' ≤ base) : MarkRow w base' v l := by
  obtain ⟨g, cap, cur, fz, e, hbg, rest⟩ := h
  exact ⟨g, cap, cur, fz, e, Nat.le_trans hb hbg, rest⟩
theorem byteCells_length (l : List UInt8) : (Lib.byteCells l).length = l.length := by simp [Lib.byteCells]
theorem byteCells_append (a b : List UInt8) : Lib.byteCells (a ++ b) = Lib.byteCells a ++ Lib.byteCells b := by simp [Lib.byteCells]
theorem byteCells_one (l : List UInt8) : ∀ v ∈ Lib.byteCells l, v.oneCell' = true := by
  intro v hv
  simp only [Lib.byteCells, List.mem_map] at hv
  obtain ⟨b, _, rfl⟩ := hv
  rfl
theorem MarkRow.cells {w : World} {base : Nat} {g cap : Nat} {l : List UInt8} (h : MarkRow w base (.slice (some ⟨g, 0, none⟩) l.length cap) l) : ∀ j u, (Lib.byteCells l)[j]? = some u → w.cell? ((⟨g, 0, none⟩ : Addr).add j) = some u := by
  intro j u hu
  obtain ⟨g', cap', cur, fz, e, hbg, hg, hfz, h1, h2, h3, h4⟩ := h
  injection e with e1 e2 e3
  injection e1 with e1
  injection e1 with e1
  subst e1 e3
  have hadd : (⟨g, 0, none⟩ : Addr).add j = ⟨g, j, none⟩ := by unfold Addr.add; split <;> simp_all
  rw [hadd, cell_of_row w g j cur 5 fz hg]
  rw [← h4, List.getElem?_take] at hu
  split at hu
  · simpa using hu
  · cases hu
theorem MarkRow.reads {w : World} {base : Nat} {v : Value} {l : List UInt8} (h : MarkRow w base v l) : ∃ A c, v = .slice A l.length c ∧ ReadsInt w .u8 A l.length (nums l) := by
  have h' := h
  obtain ⟨g, cap, cur, fz, rfl, hbg, hg, hfz, h1, h2, h3, h4⟩ := h
  refine ⟨_, _, rfl, by simp [nums], by unfold maxLen at h2; omega, fun _ => ⟨_, rfl, fun j hj => ?_⟩⟩
  refine MarkRow.cells h' j _ ?_
  simp [Lib.byteCells, nums, hj]
theorem strOf_nums (l : List UInt8) : strOfNums (nums l) = ⟨l.toArray⟩ := by
  simp [strOfNums, nums, Function.comp_def]
/-- '[]byte(s)'. -/
theorem size_list (s : ByteArray) : s.data.toList.length = s.size := by rw [Array.length_toList]; rfl
theorem mark_made (w : World) (s : ByteArray) (hs : s.size ≤ maxLen) : MarkRow (Lib.bytesWorld w 5 s) w.heap.size (.slice (some ⟨w.heap.size, 0, none⟩) s.size (grownCap w s.size 0 5)) s.data.toList ∧ Below w.heap.size w (Lib.bytesWorld w 5 s) := by
  refine ⟨⟨w.heap.size, grownCap w s.size 0 5, Lib.bytesCells w 5 s, _, ?_, Nat.le_refl _, Lib.bytesWorld_at_new w 5 s, .inr (Nat.le_refl _), ?_, ?_, ?_, ?_⟩, ?_⟩
  · rw [size_list]
  · rw [size_list]; exact grownCap_ge w s.size 0 5
  · exact grownCap_le_maxLen w s.size 0 5 hs
  · have := grownCap_ge w s.size 0 5
    have h2 : s.data.size = s.size := rfl
    simp only [Lib.bytesCells, Array.size_append, Array.size_map, Array.size_replicate, h2]
    omega
  · have : s.data.toList.length = (s.data.map fun b => Value.int .u8 b.toNat).toList.length := by simp
    rw [show (Lib.bytesCells w 5 s).toList = (s.data.map fun b => Value.int .u8 b.toNat).toList ++ (Array.replicate (grownCap w s.size 0 5 - s.size) (Value.int .u8 0)).toList from by simp [Lib.bytesCells], this, List.take_left]
    simp [Lib.byteCells]
  · exact ⟨rfl, rfl, rfl, by rw [Lib.bytesWorld_size]; omega, fun j hj => Lib.bytesWorld_at_old w 5 s j hj⟩
section
variable {P : Program}
theorem mark_append_slice (w : World) (t ty : TypeId) (i : TypeInfo) (ht : P.underlying t = some (.slice 5)) (hi : P.info? 5 = some i) (hz : i.zero = some (.int .u8 0)) (hs : i.size = 1) (hby : i.bytes = 1)
    (base : Nat) (v : Value) (l : List UInt8) (h : MarkRow w base v l) (a : Addr) (m c : Nat) (news : List UInt8) (hm : news.length = m) (hnews : ∀ j u, (Lib.byteCells news)[j]? = some u → w.cell? (a.add j) = some u)
    (hb : l.length + m ≤ 140737488355328) (hbase : base ≤ w.heap.size) :
    ∃ v' w', (Builtin.append_ #[t, t] ty #[v, .slice (some a) m c]).run P w = .ok v' w' ∧ MarkRow w' base v' (l ++ news) ∧ Below base w w' := by
  have h' := h
  obtain ⟨g, cap, cur, fz, rfl, hbg, hg, hfz, h1, h2, h3, h4⟩ := h
  have hcells := MarkRow.cells h'
  by_cases hroom : l.length + m ≤ cap
  · have hst := store_mark (P := P) g l.length 5 fz (Lib.byteCells news) 0 cur w hg (by simpa using hfz) (by rw [byteCells_length, hm]; omega) (byteCells_one news)
    simp only [Nat.add_zero] at hst
    have hr : (Builtin.append_ #[t, t] ty #[.slice (some ⟨g, 0, none⟩) l.length cap, .slice (some a) m c]).run P w = .ok (.slice (some ⟨g, 0, none⟩) (l.length + m) cap) (w.setRow g (cur.toList.take l.length ++ (Lib.byteCells news) ++ cur.toList.drop (l.length + ((Lib.byteCells news)).length)).toArray) := by
      have hf := run_firstCells_some (P := P) w 1 m a m c (Lib.byteCells news) (by rw [byteCells_length, hm, Nat.mul_one]) hnews
      simp [Builtin.append_, run_underlying ht, sizeOf, typeInfo, hi, hs, Builtin.lenOf, hroom, hf, Addr.add_lit, hst]
    refine ⟨_, _, hr, ⟨g, cap, _, fz, by rw [List.length_append, hm], hbg, setRow_heap w g cur _ 5 _ hg, ?_, by rw [List.length_append, hm]; exact hroom, h2, ?_, ?_⟩, ?_⟩
    · rw [List.length_append]
      simp only [List.size_toArray, List.length_append, List.length_take, List.length_drop, Array.length_toList, byteCells_length, hm]
      omega
    · simp only [List.size_toArray, List.length_append, List.length_take, List.length_drop, Array.length_toList, byteCells_length, hm]
      omega
    · rw [h4, List.length_append, byteCells_append]
      show List.take _ (_ ++ _ ++ _) = _
      rw [← byteCells_length l, ← byteCells_length news, ← List.length_append, List.take_left]
    · exact ⟨rfl, rfl, rfl, by simp [World.setRow], fun k hk => setRow_other w g k _ (by omega)⟩
  · have hge := grownCap_ge w (l.length + m) cap 5
    have hcm2 : grownCap w (l.length + m) cap 5 ≤ maxLen := grownCap_le_maxLen w (l.length + m) cap 5 (by unfold maxLen; omega)
    have hfitc : Builtin.nextslicecap (l.length + m) cap * i.bytes ≤ 281474976710656 := by rw [hby]; exact growslice_fits (by omega) (by omega)
    have hr := run_append_grow (P := P) w t ty 5 i (.int .u8 0) ht hi hz ⟨g, 0, none⟩ l.length cap (Lib.byteCells l) (by rw [hs, byteCells_length, Nat.mul_one]) hcells a m c (Lib.byteCells news) (by rw [hs, byteCells_length, hm, Nat.mul_one]) hnews (by omega) (by omega) hfitc
    refine ⟨_, _, hr, ⟨w.heap.size, _, _, (0, 0), by rw [List.length_append, hm], hbase, heap_alloc_new w.drew _, .inl (Nat.zero_le _), by rw [List.length_append, hm]; exact hge, hcm2, ?_, ?_⟩, ?_⟩
    · have hz1 : (Value.int IntKind.u8 0).cells.size = 1 := rfl
      simp only [Array.size_append, List.size_toArray, size_zeroCells, hz1, byteCells_length, byteCells_length, hm]
      omega
    · simp only [Array.toList_append, List.append_assoc]
      rw [← List.append_assoc, List.length_append, byteCells_append]
      show List.take _ (_ ++ _ ++ _) = _
      rw [← byteCells_length l, ← byteCells_length news, ← List.length_append, List.take_left]
    · exact ⟨rfl, rfl, rfl, by simp, fun k hk => Below.heap_alloc w.drew _ _ (Nat.lt_of_lt_of_le hk hbase)⟩
theorem mark_append_string (w : World) (t u ty : TypeId) (i : TypeInfo) (ht : P.underlying t = some (.slice 5)) (hu : P.underlying u = some .string) (hi : P.info? 5 = some i) (hz : i.zero = some (.int .u8 0)) (hs : i.size = 1) (hby : i.bytes = 1)
    (base : Nat) (v : Value) (l : List UInt8) (h : MarkRow w base v l) (s : ByteArray)
    (hb : l.length + s.size ≤ 140737488355328) (hbase : base ≤ w.heap.size) :
    ∃ v' w', (Builtin.append_ #[t, u] ty #[v, .string s]).run P w = .ok v' w' ∧ MarkRow w' base v' (l ++ s.data.toList) ∧ Below base w w' := by
  have hcs : Lib.strCells s = Lib.byteCells s.data.toList := by simp [Lib.strCells, Lib.byteCells]
  have h' := h
  obtain ⟨g, cap, cur, fz, rfl, hbg, hg, hfz, h1, h2, h3, h4⟩ := h
  have hcells := MarkRow.cells h'
  by_cases hroom : l.length + s.size ≤ cap
  · have hst := store_mark (P := P) g l.length 5 fz (Lib.strCells s) 0 cur w hg (by simpa using hfz) (by rw [Lib.strCells_length]; omega) (Lib.strCells_oneCell s)
    simp only [Nat.add_zero] at hst
    have hr : (Builtin.append_ #[t, u] ty #[.slice (some ⟨g, 0, none⟩) l.length cap, .string s]).run P w = .ok (.slice (some ⟨g, 0, none⟩) (l.length + s.size) cap) (w.setRow g (cur.toList.take l.length ++ (Lib.strCells s) ++ cur.toList.drop (l.length + ((Lib.strCells s)).length)).toArray) := by
      have hf := Lib.run_firstCells_string (P := P) w 1 s
      simp [Builtin.append_, run_underlying ht, run_underlying hu, sizeOf, typeInfo, hi, hs, Builtin.lenOf, hroom, hf, Addr.add_lit, hst]
    refine ⟨_, _, hr, ⟨g, cap, _, fz, by rw [List.length_append, show s.data.toList.length = s.size from size_list s], hbg, setRow_heap w g cur _ 5 _ hg, ?_, by rw [List.length_append, show s.data.toList.length = s.size from size_list s]; exact hroom, h2, ?_, ?_⟩, ?_⟩
    · rw [List.length_append]
      simp only [List.size_toArray, List.length_append, List.length_take, List.length_drop, Array.length_toList, Lib.strCells_length]
      omega
    · simp only [List.size_toArray, List.length_append, List.length_take, List.length_drop, Array.length_toList, Lib.strCells_length]
      omega
    · rw [h4, List.length_append, byteCells_append, hcs]
      show List.take _ (_ ++ _ ++ _) = _
      rw [← byteCells_length l, ← byteCells_length s.data.toList, ← List.length_append, List.take_left]
    · exact ⟨rfl, rfl, rfl, by simp [World.setRow], fun k hk => setRow_other w g k _ (by omega)⟩
  · have hge := grownCap_ge w (l.length + s.size) cap 5
    have hcm2 : grownCap w (l.length + s.size) cap 5 ≤ maxLen := grownCap_le_maxLen w (l.length + s.size) cap 5 (by unfold maxLen; omega)
    have hfitc : Builtin.nextslicecap (l.length + s.size) cap * i.bytes ≤ 281474976710656 := by rw [hby]; exact growslice_fits (by omega) (by omega)
    have hr := Lib.run_append_grow_string (P := P) w t u ty 5 i (.int .u8 0) ht hu hi hz ⟨g, 0, none⟩ l.length cap (Lib.byteCells l) (by rw [hs, byteCells_length, Nat.mul_one]) hcells s (by omega) (by omega) hfitc
    refine ⟨_, _, hr, ⟨w.heap.size, _, _, (0, 0), by rw [List.length_append, show s.data.toList.length = s.size from size_list s], hbase, heap_alloc_new w.drew _, .inl (Nat.zero_le _), by rw [List.length_append, show s.data.toList.length = s.size from size_list s]; exact hge, hcm2, ?_, ?_⟩, ?_⟩
    · have hz1 : (Value.int IntKind.u8 0).cells.size = 1 := rfl
      simp only [Array.size_append, List.size_toArray, size_zeroCells, hz1, byteCells_length, Lib.strCells_length]
      omega
    · simp only [Array.toList_append, List.append_assoc]
      rw [← List.append_assoc, List.length_append, byteCells_append, hcs]
      show List.take _ (_ ++ _ ++ _) = _
      rw [← byteCells_length l, ← byteCells_length s.data.toList, ← List.length_append, List.take_left]
    · exact ⟨rfl, rfl, rfl, by simp, fun k hk => Below.heap_alloc w.drew _ _ (Nat.lt_of_lt_of_le hk hbase)⟩
end
end Go.Proofs.YtlfoaaeelcmhiaaDoor.G
end

section
/- The contract of the reference's pairs, by hand: it begins with []byte(s). -/
namespace Go.Proofs.YtlfoaaeelcmhiaaDoor.G
open Go.RowKit Go.Proofs.YtlfoaaeelcmhiaaDoorW.PrintWords Go.Proofs.YtlfoaaeelcmhiaaDoorW.PrintLast Go.Proofs.YtlfoaaeelcmhiaaDoorW.PrintMore
open Go.Proofs.YtlfoaaeelcmhiaaDoor.Pure (dstr digits_f)
set_option linter.unusedVariables false
section
variable {P : Program} {ops : Array Oper} {rest : List Oper} {o : Oper} {a : Act} {Q : Exit → Act → World → Prop}
theorem wpList_mark_slice {w : World} (hgd : o.guard = none) (s x : Operand) (t : TypeId) (ho : o.op = .call { callee := .builtin .append, args := #[s, x], argTypes := #[t, t] })
    (ht : P.underlying t = some (.slice 5)) (hinfo : (P.info? 5).map (fun i => (i.zero, i.size, i.bytes)) = some (some (.int .u8 0), 1, 1))
    (base : Nat) (v : Value) (l : List UInt8) (hs : a.eval s = v) (h : MarkRow w base v l) (ad : Addr) (m c : Nat) (news : List UInt8) (hx : a.eval x = .slice (some ad) m c) (hm : news.length = m)
    (hnews : ∀ j u, (Lib.byteCells news)[j]? = some u → w.cell? (ad.add j) = some u) (hb : l.length + m ≤ 140737488355328) (hbase : base ≤ w.heap.size)
    (hh : ∀ v' w', MarkRow w' base v' (l ++ news) → Below base w w' → wpList P ops Q rest (a.put o.dst v') w') : wpList P ops Q (o :: rest) a w := by
  obtain ⟨i, hi, hz, hsz, hby⟩ := info_parts hinfo
  refine wpList_plain hgd fun K hK => ?_
  obtain ⟨v', w', hr, h2, h3⟩ := mark_append_slice (P := P) w t o.type i ht hi hz hsz hby base v l h ad m c news hm hnews hb hbase
  unfold Oper.wp execOp
  simp only [ho, resolve, invoke, builtin, Sem.run_bind, Sem.run_pure, Result.andThen_ok, List.map_toArray, List.map_cons, List.map_nil, hs, hx, hr]
  exact hK _ _ (hh v' w' h2 h3)
theorem wpList_mark_string {w : World} (hgd : o.guard = none) (s x : Operand) (t u : TypeId) (ho : o.op = .call { callee := .builtin .append, args := #[s, x], argTypes := #[t, u] })
    (ht : P.underlying t = some (.slice 5)) (hu : P.underlying u = some .string) (hinfo : (P.info? 5).map (fun i => (i.zero, i.size, i.bytes)) = some (some (.int .u8 0), 1, 1))
    (base : Nat) (v : Value) (l : List UInt8) (hs : a.eval s = v) (h : MarkRow w base v l) (str : ByteArray) (hx : a.eval x = .string str)
    (hb : l.length + str.size ≤ 140737488355328) (hbase : base ≤ w.heap.size)
    (hh : ∀ v' w', MarkRow w' base v' (l ++ str.data.toList) → Below base w w' → wpList P ops Q rest (a.put o.dst v') w') : wpList P ops Q (o :: rest) a w := by
  obtain ⟨i, hi, hz, hsz, hby⟩ := info_parts hinfo
  refine wpList_plain hgd fun K hK => ?_
  obtain ⟨v', w', hr, h2, h3⟩ := mark_append_string (P := P) w t u o.type i ht hu hi hz hsz hby base v l h str hb hbase
  unfold Oper.wp execOp
  simp only [ho, resolve, invoke, builtin, Sem.run_bind, Sem.run_pure, Result.andThen_ok, List.map_toArray, List.map_cons, List.map_nil, hs, hx, hr]
  exact hK _ _ (hh v' w' h2 h3)
end
def pairBytes (x : S50) : List UInt8 := 32 :: Lib.decDigits x.f0.toNat ++ 32 :: Lib.decDigits x.f1.toNat
def pairsBytes (l : List S50) : List UInt8 := Lib.decDigits l.length ++ l.flatMap pairBytes
def pairsGood (l : List S50) : Prop := l.length ≤ 1000000000 ∧ ∀ x ∈ l, (0 ≤ x.f0 ∧ x.f0 ≤ 18446744073709551615) ∧ 0 ≤ x.f1 ∧ x.f1 ≤ 18446744073709551615
instance (l : List S50) : Decidable (pairsGood l) := by unfold pairsGood; infer_instance
def inclineref21_pairs.f (l0 : List S50) : Option ByteArray := if pairsGood l0 then some ⟨(pairsBytes l0).toArray⟩ else none
theorem nDigits_lt : ∀ (k u : Nat), u < 10 ^ (k + 1) → Lib.nDigits u ≤ k + 1
  | 0, u, h => by rw [Lib.nDigits_small (by simpa using h)]; omega
  | k + 1, u, h => by
    by_cases hs : u < 10
    · rw [Lib.nDigits_small hs]; omega
    · rw [Lib.nDigits_big hs]
      have := nDigits_lt k (u / 10) (by rw [Nat.pow_succ] at h; omega)
      omega
theorem nDigits_le {u : Nat} (h : u < 18446744073709551616) : Lib.nDigits u ≤ 20 := nDigits_lt 19 u (by omega)
theorem decDigits_le {u : Nat} (h : u < 18446744073709551616) : (Lib.decDigits u).length ≤ 20 := by rw [Lib.decDigits_length]; exact nDigits_le h
theorem pairs_len (l : List S50) (h : pairsGood l) (i : Nat) : ((l.take i).flatMap pairBytes).length ≤ 42 * i := by
  induction i with
  | zero => simp
  | succ i ih =>
    rcases Nat.lt_or_ge i l.length with hi | hi
    · rw [List.take_succ_eq_append_getElem hi, List.flatMap_append, List.length_append]
      have hx := h.2 _ (List.getElem_mem hi)
      have h1 := decDigits_le (u := l[i].f0.toNat) (by omega)
      have h2 := decDigits_le (u := l[i].f1.toNat) (by omega)
      have h3 : (List.flatMap pairBytes [l[i]]).length = 1 + (Lib.decDigits l[i].f0.toNat).length + (1 + (Lib.decDigits l[i].f1.toNat).length) := by
        simp [pairBytes]
        omega
      omega
    · rw [List.take_of_length_le (by omega)] at ih ⊢
      omega
set_option maxHeartbeats 4000000 in
set_option maxRecDepth 100000 in
theorem inclineref21_pairs.calls (A0 : Option Addr) (c0 : Nat) (l0 : List S50) (r : ByteArray) (w : World) (hr0 : Kd.C k50 w A0 l0.length l0) (hc0 : l0.length ≤ c0) (h : inclineref21_pairs.f l0 = some r) :
    Calls Tryd.prog 35 #[.slice A0 l0.length c0] w fun e w' => e = .returned (.string r) ∧ Below w.heap.size w w' := by
  unfold inclineref21_pairs.f at h
  by_cases hc : pairsGood l0
  · rw [if_pos hc] at h
    obtain rfl := Option.some.inj h
    have hlen := hc.1
    have HG := Aside0.mk hc
    have HC := Aside0.mk hr0
    have hu1 : IntKind.u64.wrap (l0.length : Int) = (l0.length : Int) := by rw [IntKind.wrap_u64]; omega
    have hd0 := Aside0.mk (digits_f (l0.length : Int) (by omega) (by omega) 20 (by omega))
    have hsz0 : (dstr (l0.length : Int).toNat).size ≤ 20 := by
      have := decDigits_le (u := l0.length) (by omega)
      show (Lib.decDigits _).toArray.size ≤ 20
      simpa using this
    have hcv : ∀ u : World, (convert 9 47 (.string (dstr (l0.length : Int).toNat))).run Tryd.prog u = .ok (.slice (some ⟨u.heap.size, 0, none⟩) (dstr (l0.length : Int).toNat).size (grownCap u (dstr (l0.length : Int).toNat).size 0 5)) (Lib.bytesWorld u 5 (dstr (l0.length : Int).toNat)) :=
      fun u => Lib.run_convert_string_bytes u 9 47 5 _ Tryd.underlying9 Tryd.underlying47 Tryd.underlying5
    have hmk := fun u : World => mark_made u (dstr (l0.length : Int).toNat) (by unfold maxLen; omega)
    have HMK := Aside0.mk hmk
    have hds : (dstr (l0.length : Int).toNat).data.toList = Lib.decDigits l0.length := by simp [dstr]
    have HDS := Aside0.mk hds
    have HSZ := Aside0.mk hsz0
    clear hr0 h hc hmk hds hsz0
    generalize dstr (l0.length : Int).toNat = ds at *
    go_enter Tryd.func35, Tryd.ntmps35
    go_wp2_with (first
      | (go_at_call 30; refine (inclineref21_digits.calls 20 _ _ _ hd0.out).mono ?_; rintro e w1 ⟨rfl, hb⟩; have hb1 := Aside0.mk hb; clear hb; obtain ⟨hM, hbM⟩ := HMK.out w1; have HM := Aside0.mk (hM.lower (below_size hb1.out)); have HBM := Aside0.mk (below_step hb1.out hbM); clear hM hbM))
    go_loopg [3, 4] l0.length (fun kq v3 v4 w' => ∃ (i : Nat) (bs : List UInt8), v4 = .int .i64 (i : Int) ∧ Aside0 (kq + i = l0.length) ∧ Aside0 (bs = Lib.decDigits l0.length ++ (l0.take i).flatMap pairBytes) ∧ Aside0 (MarkRow w' w.heap.size v3 bs) ∧ Aside0 (Below w.heap.size w w'))
    case atStart => exact ⟨0, ds.data.toList, rfl, ⟨by omega⟩, ⟨by rw [HDS.out]; simp⟩, HM, HBM⟩
    case round =>
      obtain ⟨i, bs, rfl, HK, HE, HR, HB⟩ := hrel
      have hk := HK.out
      clear HM HBM HMK
      cases gk with
      | zero =>
        obtain ⟨A, c, rfl, hread⟩ := HR.out.reads
        have hst' := string_of_reads (P := Tryd.prog) (src := 47) (dst := 9) (c := c) Tryd.underlying47 Tryd.underlying5 Tryd.underlying9 hread
        rw [strOf_nums] at hst'
        have hlt : decide ((i : Int) < (l0.length : Int)) = false := decide_eq_false (by omega)
        have hltn : decide (i < l0.length) = false := decide_eq_false (by omega)
        have hti : l0.take i = l0 := List.take_of_length_le (by omega)
        have hbs := HE.out
        rw [hti] at hbs
        have HBS : Aside0 (bs = pairsBytes l0) := ⟨hbs⟩
        clear hread hk hti hbs
        go_wp2
        go_ret
        exact ⟨by rw [HBS.out]; rfl, HB.out⟩
      | succ k1 =>
        have hlt : decide ((i : Int) < (l0.length : Int)) = true := decide_eq_true (by omega)
        have hltn : decide (i < l0.length) = true := decide_eq_true (by omega)
        have hpl := pairs_len l0 HG.out i
        have hdl := decDigits_le (u := l0.length) (by omega)
        have hg := HG.out.2 (l0[i]'(by omega)) (List.getElem_mem _)
        have hrd : rd_T50 l0 (i : Int) = l0[i]'(by omega) := by
          unfold rd_T50
          rw [Int.toNat_natCast, List.getD_eq_getElem?_getD, List.getElem?_eq_getElem (by omega)]
          rfl
        have hd1 := decDigits_le (u := (l0[i]'(by omega)).f0.toNat) (by omega)
        have hd2 := decDigits_le (u := (l0[i]'(by omega)).f1.toNat) (by omega)
        have hf0 := Aside0.mk (digits_f (l0[i]'(by omega)).f0 hg.1.1 hg.1.2 20 (by omega))
        have hf1 := Aside0.mk (digits_f (l0[i]'(by omega)).f1 hg.2.1 hg.2.2 20 (by omega))
        obtain ⟨ad, e, _, _⟩ := at_T50 HC.out (i : Int) (by omega) (by omega)
        subst e
        have hnext : (l0.take (i + 1)).flatMap pairBytes = (l0.take i).flatMap pairBytes ++ pairBytes (l0[i]'(by omega)) := by
          rw [List.take_succ_eq_append_getElem (by omega), List.flatMap_append]
          simp
        have hbl : bs.length ≤ 20 + 42 * 1000000000 := by
          have := HE.out
          rw [this, List.length_append]
          omega
        have HBL := Aside0.mk hbl
        generalize l0[i]'(by omega) = x at *
        have hs1 : (dstr x.f0.toNat).size ≤ 20 := by show (Lib.decDigits _).toArray.size ≤ 20; simpa using hd1
        have hs2 : (dstr x.f1.toNat).size ≤ 20 := by show (Lib.decDigits _).toArray.size ≤ 20; simpa using hd2
        have ht1 : (dstr x.f0.toNat).data.toList = Lib.decDigits x.f0.toNat := by simp [dstr]
        have ht2 : (dstr x.f1.toNat).data.toList = Lib.decDigits x.f1.toNat := by simp [dstr]
        generalize dstr x.f0.toNat = s1 at *
        generalize dstr x.f1.toNat = s2 at *
        have HS1 := Aside0.mk hs1
        have HS2 := Aside0.mk hs2
        have HNX : Aside0 (bs ++ [32] ++ s1.data.toList ++ [32] ++ s2.data.toList = Lib.decDigits l0.length ++ (l0.take (i + 1)).flatMap pairBytes) := ⟨by
          rw [hnext, ht1, ht2, HE.out]
          simp [pairBytes]⟩
        have p0 : (0 : Int) ≤ (i : Int) := by omega
        have p1 : (i : Int) < (l0.length : Int) := by omega
        have q0 := eq_true p0
        have q1 := eq_true p1
        have hw1 : IntKind.i64.wrap ((i : Int) + 1) = ((i + 1 : Nat) : Int) := by rw [IntKind.wrap_i64]; omega
        have e1 : s1.data.toList.length = s1.size := size_list s1
        have e2 : s2.data.toList.length = s2.size := size_list s2
        have E1 := Aside0.mk e1
        have E2 := Aside0.mk e2
        clear hpl hdl hg hd1 hd2 hnext hbl hs1 hs2 ht1 ht2 p0 p1 e1 e2
        go_wp2_with (first
          | (at_builtin; go_must (first
              | (refine wpList_mark_slice rfl (.tmp 16) (.tmp 17) 47 rfl Tryd.underlying47 info5 w.heap.size _ bs rfl (HR.out.step (below_alloc (Below.refl _ _) _)) _ _ _ [32] rfl rfl (cell_one_new _ _ _) (by have := HBL.out; omega) (below_size (below_alloc HB.out _)) ?_; intro v5 w5 hM hb; have HM5 := Aside0.mk hM; have HB5 := Aside0.mk ((below_alloc HB.out _).trans hb); clear hM hb; obtain ⟨ad', ea, hx0, hx1⟩ := at_T50 (Kd.C_below HC.out HB5.out) (i : Int) (by omega) (by omega); cases ea; rw [hrd, Int.toNat_natCast] at hx0)
              | (refine wpList_mark_string rfl (.tmp 19) (.tmp 25) 47 9 rfl Tryd.underlying47 Tryd.underlying9 info5 w.heap.size _ (bs ++ [32]) rfl HM6.out s1 rfl (by have := HBL.out; have := HS1.out; simp only [List.length_append, List.length_cons, List.length_nil]; omega) (below_size HB6.out) ?_; intro v7 w7 hM hb; have HM7 := Aside0.mk hM; have HB7 := Aside0.mk (HB6.out.trans hb); clear hM hb)
              | (refine wpList_mark_slice rfl (.tmp 27) (.tmp 28) 47 rfl Tryd.underlying47 info5 w.heap.size _ (bs ++ [32] ++ s1.data.toList) rfl (HM7.out.step (below_alloc (Below.refl _ _) _)) _ _ _ [32] rfl rfl (cell_one_new _ _ _) (by have := HBL.out; have := HS1.out; have := E1.out; simp only [List.length_append, List.length_cons, List.length_nil]; omega) (below_size (below_alloc HB7.out _)) ?_; intro v8 w8 hM hb; have HM8 := Aside0.mk hM; have HB8 := Aside0.mk ((below_alloc HB7.out _).trans hb); clear hM hb; obtain ⟨ad', ea, hx2, hx3⟩ := at_T50 (Kd.C_below HC.out HB8.out) (i : Int) (by omega) (by omega); cases ea; rw [hrd, Int.toNat_natCast] at hx3)
              | (refine wpList_mark_string rfl (.tmp 30) (.tmp 36) 47 9 rfl Tryd.underlying47 Tryd.underlying9 info5 w.heap.size _ (bs ++ [32] ++ s1.data.toList ++ [32]) rfl HM9.out s2 rfl (by have := HBL.out; have := HS1.out; have := HS2.out; have := E1.out; simp only [List.length_append, List.length_cons, List.length_nil]; omega) (below_size HB9.out) ?_; intro v10 w10 hM hb; have HM10 := Aside0.mk hM; have HB10 := Aside0.mk (HB9.out.trans hb); clear hM hb)))
          | (go_at_call 30; (with_reducible refine (inclineref21_digits.calls 20 _ _ _ hf0.out).mono ?_); rintro e w6 ⟨rfl, hb⟩; have HM6 := Aside0.mk (HM5.out.step hb); have HB6 := Aside0.mk (below_step HB5.out hb); clear hb)
          | (go_at_call 30; (with_reducible refine (inclineref21_digits.calls 20 _ _ _ hf1.out).mono ?_); rintro e w9 ⟨rfl, hb⟩; have HM9 := Aside0.mk (HM8.out.step hb); have HB9 := Aside0.mk (below_step HB8.out hb); clear hb))
        go_roundg k1
        case measure => omega
        case rel => exact ⟨i + 1, _, rfl, ⟨by have := HK.out; omega⟩, HNX, HM10, HB10⟩
  · rw [if_neg hc] at h
    cases h
end Go.Proofs.YtlfoaaeelcmhiaaDoor.G
end

section
/- Plain laws, on: what script.Print answers. -/
namespace Go.Proofs.YtlfoaaeelcmhiaaDoor.Pure
open Go.RowKit Go.Proofs.YtlfoaaeelcmhiaaDoor.G
open Go.Proofs.YtlfoaaeelcmhiaaDoorW.PrintWords hiding nums
set_option linter.unusedVariables false
set_option linter.unusedSimpArgs false
def u64ok (n : Int) : Prop := 0 ≤ n ∧ n ≤ 18446744073709551615
def numsText (ns : List Int) : Bytes := ns.flatMap fun n => 32 :: Lib.decDigits n.toNat
def prGo : List S30 → Bytes → ByteArray × Int
  | [], bs => if 65536 < bs.length then (⟨#[]⟩, 210) else (mk bs, 0)
  | c :: cs, bs => if takesL (bl c.f0) = -1 then (⟨#[]⟩, 211) else if (c.f1.length : Int) ≠ takesL (bl c.f0) then (⟨#[]⟩, 213) else prGo cs (bs ++ bl c.f0 ++ numsText c.f1 ++ [10])
theorem nums_append (a b : Bytes) : nums (a ++ b) = nums a ++ nums b := by simp [nums]
theorem nums_length (a : Bytes) : (nums a).length = a.length := by simp [nums]
theorem bytesOf_nums (s : ByteArray) : bytesOf s = nums (bl s) := by
  simp [bytesOf, nums, bl]
theorem rdT_get (l : List S30) (i : Nat) (h : i < l.length) : rd_T30 l (i : Int) = l[i] := by
  unfold rd_T30
  rw [Int.toNat_natCast, List.getD_eq_getElem?_getD, List.getElem?_eq_getElem h]
  rfl
theorem rd_get (l : List Int) (i : Nat) (h : i < l.length) : rd l (i : Int) = l[i] := by
  unfold rd
  rw [Int.toNat_natCast, List.getD_eq_getElem?_getD, List.getElem?_eq_getElem h]
  rfl
theorem dec_len {n : Int} (h : u64ok n) : (Lib.decDigits n.toNat).length ≤ 20 := decDigits_le (by have := h.2; have := h.1; omega)
theorem print_l1 (ns : List Int) (hns : ∀ n ∈ ns, u64ok n) (hl : ns.length ≤ 1000) (l : List S30) (i : Nat) (hi : i < l.length) (hln : l.length ≤ 4096) : ∀ (d j : Nat) (bs : Bytes) (k : Nat), ns.length = j + d → bs.length + 21 * d ≤ 1000000000 →
    script_Print.l1 (k + d + 1) (nums bs) l (l.length : Int) (i : Int) ns (ns.length : Int) (j : Int) = script_Print.l0 k (nums (bs ++ numsText (ns.drop j) ++ [10])) l (l.length : Int) ((i + 1 : Nat) : Int) := by
  intro d
  induction d with
  | zero =>
    intro j bs k h1 h2
    simp only [Nat.add_zero, script_Print.l1]
    rw [if_neg (by omega), nums_length, if_pos (by omega), w64 (by omega) (by omega), List.drop_eq_nil_of_le (by omega)]
    rw [show nums bs ++ [10] = nums (bs ++ [10]) from by rw [nums_append]; rfl]
    simp [numsText]
  | succ d ih =>
    intro j bs k h1 h2
    have hj : j < ns.length := by omega
    have hu := hns _ (List.getElem_mem hj)
    have hd := dec_len hu
    obtain ⟨K, hK⟩ : ∃ K, k + d + 1 = K := ⟨_, rfl⟩
    rw [show k + (d + 1) + 1 = K + 1 from by omega]
    simp only [script_Print.l1]
    rw [if_pos (by omega), if_pos (by omega), if_pos (by omega), nums_length, if_pos (by omega), rd_get _ _ hj]
    unfold strconv_AppendUint.f
    rw [if_pos ⟨rfl, hu, by rw [List.length_append, nums_length, List.length_singleton]; omega⟩, Option.bind_some, w64 (by omega) (by omega)]
    rw [show nums bs ++ [32] ++ nums (Lib.decDigits ns[j].toNat) = nums (bs ++ (32 :: Lib.decDigits ns[j].toNat)) from by rw [nums_append]; simp [nums], show (j : Int) + 1 = ((j + 1 : Nat) : Int) from rfl, ← hK, ih (j + 1) _ k (by omega) (by rw [List.length_append, List.length_cons]; omega)]
    have e : numsText (ns.drop j) = (32 :: Lib.decDigits ns[j].toNat) ++ numsText (ns.drop (j + 1)) := by rw [List.drop_eq_getElem_cons hj]; rfl
    rw [e, List.append_assoc bs]
theorem numsText_len (ns : List Int) (hns : ∀ n ∈ ns, u64ok n) : (numsText ns).length ≤ 21 * ns.length := by
  induction ns with
  | nil => simp [numsText]
  | cons n ns ih =>
    have := ih (fun m hm => hns m (List.mem_cons_of_mem _ hm))
    have hd := dec_len (hns n List.mem_cons_self)
    have e : numsText (n :: ns) = (32 :: Lib.decDigits n.toNat) ++ numsText ns := rfl
    rw [e, List.length_append, List.length_cons, List.length_cons]
    omega
theorem print_l0 (l : List S30) (hw : ∀ c ∈ l, ∀ n ∈ c.f1, u64ok n) (hln : l.length ≤ 4096) : ∀ (m i : Nat) (bs : Bytes) (k : Nat), l.length = i + m → 6 * m + 4 ≤ k → bs.length ≤ 100 * i →
    script_Print.l0 k (nums bs) l (l.length : Int) (i : Int) = some (prGo (l.drop i) bs) := by
  intro m
  induction m with
  | zero =>
    intro i bs k h1 hk hb
    obtain ⟨k, rfl⟩ : ∃ m, k = m + 1 := ⟨k - 1, by omega⟩
    simp only [script_Print.l0]
    rw [if_neg (by omega), nums_length, List.drop_eq_nil_of_le (by omega)]
    unfold prGo
    by_cases h : 65536 < bs.length
    · rw [if_pos (by omega), if_pos h]
    · rw [if_neg (by omega), if_neg h, strOf_nums]
      rfl
  | succ m ih =>
    intro i bs k h1 hk hb
    obtain ⟨k, rfl⟩ : ∃ m, k = m + 1 := ⟨k - 1, by omega⟩
    have hi : i < l.length := by omega
    have hwi := hw _ (List.getElem_mem hi)
    rw [List.drop_eq_getElem_cons hi]
    simp only [script_Print.l0]
    rw [if_pos (by omega), if_pos (by omega), if_pos (by omega), rdT_get _ _ hi, takes_is k (by omega), Option.bind_some]
    unfold prGo
    by_cases ht : takesL (bl l[i].f0) = -1
    · rw [if_pos ht, if_pos ht]
      rfl
    · have hr := takesL_range (bl l[i].f0)
      have hlen := (takesL_len _ ht).1
      rw [bl_length] at hlen
      rw [if_neg ht, if_neg ht]
      simp only []
      rw [if_pos trivial]
      by_cases hn : (l[i].f1.length : Int) = takesL (bl l[i].f0)
      · have hnl := numsText_len _ hwi
        rw [if_pos hn, if_neg (show ¬ ((l[i].f1.length : Int) ≠ takesL (bl l[i].f0)) from fun h => h hn), nums_length, if_pos (by omega), bytesOf_nums, ← nums_append]
        obtain ⟨k', hk'⟩ : ∃ k', k = k' + l[i].f1.length + 1 := ⟨k - l[i].f1.length - 1, by omega⟩
        have h1' := print_l1 l[i].f1 hwi (by omega) l i hi hln l[i].f1.length 0 (bs ++ bl l[i].f0) k' (by omega) (by rw [List.length_append, bl_length]; omega)
        rw [← hk', show ((0 : Nat) : Int) = 0 from rfl, List.drop_zero] at h1'
        rw [h1', ih (i + 1) _ k' (by omega) (by omega) (by simp only [List.length_append, List.length_cons, List.length_nil, bl_length]; omega)]
      · rw [if_neg hn, if_pos hn]
theorem print_is (l : List S30) (hw : ∀ c ∈ l, ∀ n ∈ c.f1, u64ok n) (k : Nat) (hk : 30000 ≤ k) : script_Print.f k l = some (if 4096 < l.length then (⟨#[]⟩, 210) else prGo l []) := by
  unfold script_Print.f
  by_cases h : 4096 < l.length
  · rw [if_pos (by omega), if_pos h]
  · rw [if_neg (by omega), if_neg h]
    exact print_l0 l hw (by omega) l.length 0 [] k (by omega) (by omega) (by simp)
end Go.Proofs.YtlfoaaeelcmhiaaDoor.Pure
end

section
/- Plain laws, on: lines by their words; the text of commands, and how it is read. -/
namespace Go.Proofs.YtlfoaaeelcmhiaaDoor.Pure
open Go.RowKit Go.Proofs.YtlfoaaeelcmhiaaDoor.G
open Go.Proofs.YtlfoaaeelcmhiaaDoorW.PrintWords hiding nums
set_option linter.unusedVariables false
set_option linter.unusedSimpArgs false
/-- parseS, over the words of the lines. -/
def parseW : List (List Bytes) → List Cmd → Int → List Cmd × Int × Int
  | [], l, _ => (l, 0, 0)
  | ws :: ps, l, at_ =>
    if ws = [] then parseW ps l (at_ + 1)
    else if isNote ws = true then parseW ps l (at_ + 1)
    else if l.length = 4096 then ([], at_ + 1, 210)
    else if (cmdSpec ws).2.2 = 0 then parseW ps (l ++ [((cmdSpec ws).1, (cmdSpec ws).2.1)]) (at_ + 1)
    else ([], at_ + 1, (cmdSpec ws).2.2)
theorem parseS_W (ps : List Bytes) (l : List Cmd) (at_ : Int) : parseS ps l at_ = parseW (ps.map lineWords) l at_ := by
  induction ps generalizing l at_ with
  | nil => rfl
  | cons p ps ih => simp only [parseS, List.map_cons, parseW, ih]
def cmdOK (c : Cmd) : Prop := takesL c.1 ≠ -1 ∧ (c.2.length : Int) = takesL c.1 ∧ ∀ n ∈ c.2, u64ok n
def cmdText (c : Cmd) : Bytes := c.1 ++ numsText c.2
def scriptText (cs : List Cmd) : Bytes := cs.flatMap fun c => cmdText c ++ [10]
def wordsLen (ws : List Bytes) : Nat := (ws.map fun w => w.length + 1).sum
def textLen (cs : List Cmd) : Nat := (cs.map fun c => (cmdText c).length + 1).sum
theorem scriptText_len (cs : List Cmd) : (scriptText cs).length = textLen cs := by
  induction cs with
  | nil => rfl
  | cons c cs ih =>
    have e : scriptText (c :: cs) = (cmdText c ++ [10]) ++ scriptText cs := rfl
    rw [e, List.length_append, ih]
    simp [textLen]
theorem textLen_append (a b : List Cmd) : textLen (a ++ b) = textLen a + textLen b := by simp [textLen]
theorem numsText_args (args : List Bytes) (h : args.all goodNum = true) : numsText (args.map numOf) = args.flatMap fun a => 32 :: a := by
  induction args with
  | nil => rfl
  | cons a args ih =>
    rw [List.all_cons, Bool.and_eq_true] at h
    have hn : numeral a = true := by
      have := h.1
      unfold goodNum at this
      rw [Bool.and_eq_true] at this
      exact this.1
    have e : numsText ((a :: args).map numOf) = (32 :: Lib.decDigits (numOf a).toNat) ++ numsText (args.map numOf) := rfl
    rw [e, ih h.2]
    unfold numOf
    rw [Int.toNat_natCast, dec_numeral hn]
    rfl
theorem args_len (args : List Bytes) : (args.flatMap fun a => 32 :: a).length = wordsLen args := by
  induction args with
  | nil => rfl
  | cons a args ih =>
    rw [List.flatMap_cons, List.length_append, ih]
    simp only [wordsLen, List.map_cons, List.sum_cons, List.length_cons]
theorem numOf_ok {a : Bytes} (h : goodNum a = true) : u64ok (numOf a) := by
  unfold goodNum at h
  rw [Bool.and_eq_true, decide_eq_true_eq] at h
  unfold numOf
  exact ⟨by omega, by omega⟩
theorem cmdSpec_ok (ws : List Bytes) (h : (cmdSpec ws).2.2 = 0) : cmdOK ((cmdSpec ws).1, (cmdSpec ws).2.1) ∧ (cmdText ((cmdSpec ws).1, (cmdSpec ws).2.1)).length + 1 = wordsLen ws := by
  cases ws with
  | nil => simp [cmdSpec] at h
  | cons w args =>
    simp only [cmdSpec] at h ⊢
    by_cases h1 : takesL w = -1
    · rw [if_pos h1] at h; simp at h
    · rw [if_neg h1] at h ⊢
      by_cases h2 : (args.length : Int) ≠ takesL w
      · rw [if_pos h2] at h; simp at h
      · rw [if_neg h2] at h ⊢
        by_cases h3 : args.all goodNum = true
        · rw [if_pos h3]
          refine ⟨⟨h1, by simp only [List.length_map]; omega, fun n hn => ?_⟩, ?_⟩
          · obtain ⟨a, ha, rfl⟩ := List.mem_map.1 hn
            exact numOf_ok (List.all_eq_true.1 h3 a ha)
          · show (w ++ numsText (args.map numOf)).length + 1 = _
            rw [numsText_args args h3, List.length_append, args_len]
            simp [wordsLen]
            omega
        · rw [if_neg h3] at h; simp at h
theorem cmdSpec_code (ws : List Bytes) : (cmdSpec ws).2.2 = 0 ∨ (cmdSpec ws).2.2 = 211 ∨ (cmdSpec ws).2.2 = 212 ∨ (cmdSpec ws).2.2 = 213 := by
  cases ws with
  | nil => simp [cmdSpec]
  | cons w args => unfold cmdSpec; repeat' split
                   all_goals simp
/-- What reading comes to. -/
theorem parseW_spec (ps : List (List Bytes)) : ∀ (l : List Cmd) (at_ : Int), (∀ c ∈ l, cmdOK c) → l.length ≤ 4096 →
    ((parseW ps l at_).2.2 = 0 → (parseW ps l at_).2.1 = 0 ∧ (∀ c ∈ (parseW ps l at_).1, cmdOK c) ∧ (parseW ps l at_).1.length ≤ 4096 ∧ textLen (parseW ps l at_).1 ≤ textLen l + (ps.map wordsLen).sum) ∧
    ((parseW ps l at_).2.2 ≠ 0 → (parseW ps l at_).1 = [] ∧ at_ < (parseW ps l at_).2.1 ∧ (parseW ps l at_).2.1 ≤ at_ + ps.length) := by
  induction ps with
  | nil => intro l at_ hl hn; exact ⟨fun _ => ⟨rfl, hl, hn, by simp [parseW]⟩, fun h => absurd rfl h⟩
  | cons ws ps ih =>
    intro l at_ hl hn
    simp only [parseW]
    have keep : ((parseW ps l (at_ + 1)).2.2 = 0 → (parseW ps l (at_ + 1)).2.1 = 0 ∧ (∀ c ∈ (parseW ps l (at_ + 1)).1, cmdOK c) ∧ (parseW ps l (at_ + 1)).1.length ≤ 4096 ∧ textLen (parseW ps l (at_ + 1)).1 ≤ textLen l + ((ws :: ps).map wordsLen).sum) ∧
        ((parseW ps l (at_ + 1)).2.2 ≠ 0 → (parseW ps l (at_ + 1)).1 = [] ∧ at_ < (parseW ps l (at_ + 1)).2.1 ∧ (parseW ps l (at_ + 1)).2.1 ≤ at_ + (ws :: ps).length) := by
      obtain ⟨i1, i2⟩ := ih l (at_ + 1) hl hn
      refine ⟨fun h => ?_, fun h => ?_⟩
      · obtain ⟨j1, j2, j3, j4⟩ := i1 h
        exact ⟨j1, j2, j3, by simp only [List.map_cons, List.sum_cons]; omega⟩
      · obtain ⟨j1, j2, j3⟩ := i2 h
        exact ⟨j1, by omega, by simp only [List.length_cons]; omega⟩
    by_cases h0 : ws = []
    · rw [if_pos h0]; exact keep
    · rw [if_neg h0]
      by_cases h1 : isNote ws = true
      · rw [if_pos h1]; exact keep
      · rw [if_neg h1]
        by_cases h2 : l.length = 4096
        · rw [if_pos h2]
          exact ⟨fun h => by simp at h, fun _ => ⟨rfl, by simp only []; omega, by simp only [List.length_cons]; omega⟩⟩
        · rw [if_neg h2]
          by_cases h3 : (cmdSpec ws).2.2 = 0
          · rw [if_pos h3]
            obtain ⟨k1, k2⟩ := cmdSpec_ok ws h3
            obtain ⟨i1, i2⟩ := ih (l ++ [((cmdSpec ws).1, (cmdSpec ws).2.1)]) (at_ + 1) (fun c hc => by
              rcases List.mem_append.1 hc with h | h
              · exact hl c h
              · rw [List.mem_singleton] at h; subst h; exact k1) (by rw [List.length_append]; simp only [List.length_cons, List.length_nil]; omega)
            refine ⟨fun h => ?_, fun h => ?_⟩
            · obtain ⟨j1, j2, j3, j4⟩ := i1 h
              refine ⟨j1, j2, j3, ?_⟩
              rw [textLen_append] at j4
              have : textLen [((cmdSpec ws).1, (cmdSpec ws).2.1)] = wordsLen ws := by rw [← k2]; simp [textLen]
              simp only [List.map_cons, List.sum_cons]
              omega
            · obtain ⟨j1, j2, j3⟩ := i2 h
              exact ⟨j1, by omega, by simp only [List.length_cons]; omega⟩
          · rw [if_neg h3]
            exact ⟨fun h => absurd h h3, fun _ => ⟨rfl, by simp only []; omega, by simp only [List.length_cons]; omega⟩⟩
theorem splitL_len (c : UInt8) (l : Bytes) : wordsLen (splitL c l) = l.length + 1 := by
  induction l with
  | nil => rfl
  | cons x xs ih =>
    rw [splitL_cons]
    split
    · simp only [wordsLen, List.map_cons, List.sum_cons, List.length_nil, List.length_cons] at ih ⊢
      omega
    · cases hs : splitL c xs with
      | nil => exact absurd hs (splitL_ne c xs)
      | cons p ps =>
        rw [hs] at ih
        simp only [wordsLen, List.map_cons, List.sum_cons, List.length_cons] at ih ⊢
        omega
theorem wordsLen_filter (f : Bytes → Bool) (l : List Bytes) : wordsLen (l.filter f) ≤ wordsLen l := by
  induction l with
  | nil => exact Nat.le_refl _
  | cons x l ih =>
    rw [List.filter_cons]
    split
    · simp only [wordsLen, List.map_cons, List.sum_cons] at ih ⊢
      omega
    · simp only [wordsLen, List.map_cons, List.sum_cons] at ih ⊢
      omega
theorem lineWords_len (p : Bytes) : wordsLen (lineWords p) ≤ p.length + 1 := by
  rw [← splitL_len 32 p]
  exact wordsLen_filter _ _
theorem lines_len (t : Bytes) : (((splitL 10 t).map lineWords).map wordsLen).sum ≤ t.length + 1 := by
  rw [← splitL_len 10 t]
  generalize splitL 10 t = ps
  induction ps with
  | nil => exact Nat.le_refl _
  | cons p ps ih =>
    have := lineWords_len p
    simp only [wordsLen, List.map_cons, List.sum_cons] at ih this ⊢
    omega
/-- What script.Parse answers, at the text as a whole. -/
theorem parseT_spec (t : Bytes) :
    ((parseT t).2.2 = 0 → (parseT t).2.1 = 0 ∧ (∀ c ∈ (parseT t).1, cmdOK c) ∧ (parseT t).1.length ≤ 4096 ∧ textLen (parseT t).1 ≤ t.length + 1 ∧ t.length ≤ 65536) ∧
    ((parseT t).2.2 ≠ 0 → (parseT t).1 = [] ∧ (0 < (parseT t).2.1 ∨ 65536 < t.length) ∧ (parseT t).2.1 ≤ 65537) := by
  unfold parseT
  by_cases h : 65536 < t.length
  · rw [if_pos h]
    exact ⟨fun h => by simp at h, fun _ => ⟨rfl, .inr h, by simp⟩⟩
  · rw [if_neg h, parseS_W]
    obtain ⟨i1, i2⟩ := parseW_spec ((splitL 10 t).map lineWords) [] 0 (fun c hc => by cases hc) (by simp)
    have hl := lines_len t
    have hn := (splitL_mem 10 t).2
    refine ⟨fun h0 => ?_, fun h0 => ?_⟩
    · obtain ⟨j1, j2, j3, j4⟩ := i1 h0
      have e : textLen [] = 0 := rfl
      exact ⟨j1, j2, j3, by omega, by omega⟩
    · obtain ⟨j1, j2, j3⟩ := i2 h0
      rw [List.length_map] at j3
      exact ⟨j1, .inl j2, by omega⟩
end Go.Proofs.YtlfoaaeelcmhiaaDoor.Pure
end

section
/- Plain laws, on: what is printed is read; put together; what says nothing. -/
namespace Go.Proofs.YtlfoaaeelcmhiaaDoor.Pure
open Go.RowKit Go.Proofs.YtlfoaaeelcmhiaaDoor.G
open Go.Proofs.YtlfoaaeelcmhiaaDoorW.PrintWords hiding nums
set_option linter.unusedVariables false
set_option linter.unusedSimpArgs false
def ofS (x : S30) : Cmd := (bl x.f0, x.f1)
theorem toS_ofS (x : S30) : toS (ofS x) = x := by
  unfold toS ofS
  rw [mk_bl]
theorem ofS_toS (c : Cmd) : ofS (toS c) = c := by
  unfold toS ofS
  rw [bl_mk]
theorem map_toS_ofS (l : List S30) : (l.map ofS).map toS = l := by
  rw [List.map_map, show (toS ∘ ofS) = id from funext toS_ofS, List.map_id]
theorem map_ofS_toS (l : List Cmd) : (l.map toS).map ofS = l := by
  rw [List.map_map, show (ofS ∘ toS) = id from funext ofS_toS, List.map_id]
/-- What Print answers: a word that is none, or a number of numbers that is not the word's; else the text, if it is not too long. -/
theorem prGo_cases (l : List S30) (hw : ∀ c ∈ l, ∀ n ∈ c.f1, u64ok n) : ∀ bs : Bytes,
    (∃ e : Int, (e = 211 ∨ e = 213) ∧ prGo l bs = (⟨#[]⟩, e)) ∨ ((∀ c ∈ l, cmdOK (ofS c)) ∧ prGo l bs = if 65536 < (bs ++ scriptText (l.map ofS)).length then (⟨#[]⟩, 210) else (mk (bs ++ scriptText (l.map ofS)), 0)) := by
  induction l with
  | nil => intro bs; right; exact ⟨fun c hc => (by cases hc), by simp [prGo, scriptText]⟩
  | cons c l ih =>
    intro bs
    unfold prGo
    by_cases h1 : takesL (bl c.f0) = -1
    · rw [if_pos h1]; exact .inl ⟨211, .inl rfl, rfl⟩
    · rw [if_neg h1]
      by_cases h2 : (c.f1.length : Int) ≠ takesL (bl c.f0)
      · rw [if_pos h2]; exact .inl ⟨213, .inr rfl, rfl⟩
      · rw [if_neg h2]
        rcases ih (fun d hd => hw d (List.mem_cons_of_mem _ hd)) (bs ++ bl c.f0 ++ numsText c.f1 ++ [10]) with h | ⟨h, e⟩
        · exact .inl h
        · right
          refine ⟨fun d hd => ?_, ?_⟩
          · rcases List.mem_cons.1 hd with hd | hd
            · subst hd; exact ⟨h1, by unfold ofS; simp only []; omega, hw _ List.mem_cons_self⟩
            · exact h d hd
          · rw [e]
            have ee : bs ++ bl c.f0 ++ numsText c.f1 ++ [10] ++ scriptText (l.map ofS) = bs ++ scriptText ((c :: l).map ofS) := by
              have e2 : scriptText ((c :: l).map ofS) = (cmdText (ofS c) ++ [10]) ++ scriptText (l.map ofS) := rfl
              rw [e2]
              simp [cmdText, ofS]
            rw [ee]
theorem splitL_pre (c : UInt8) (p t : Bytes) (h : ∀ x ∈ p, x ≠ c) : splitL c (p ++ c :: t) = p :: splitL c t := by
  induction p with
  | nil =>
    rw [List.nil_append, splitL_cons, if_pos (by simp)]
  | cons x p ih =>
    have hx := h x List.mem_cons_self
    rw [List.cons_append, splitL_cons, if_neg (by simpa using hx), ih (fun y hy => h y (List.mem_cons_of_mem _ hy))]
theorem splitL_one (c : UInt8) (p : Bytes) (h : ∀ x ∈ p, x ≠ c) : splitL c p = [p] := by
  induction p with
  | nil => rfl
  | cons x p ih =>
    have hx := h x List.mem_cons_self
    rw [splitL_cons, if_neg (by simpa using hx), ih (fun y hy => h y (List.mem_cons_of_mem _ hy))]
theorem dec_range (n : Nat) : ∀ x ∈ Lib.decDigits n, 48 ≤ x.toNat ∧ x.toNat ≤ 57 := fun x hx => isDig_bounds (List.all_eq_true.1 (dec_all n).1 x hx)
theorem ne_of_range {x c : UInt8} {a b : Nat} (h : a ≤ x.toNat ∧ x.toNat ≤ b) (hc : c.toNat < a ∨ b < c.toNat) : x ≠ c := by
  intro e; subst e; omega
theorem numsText_no10 (ns : List Int) : ∀ x ∈ numsText ns, x ≠ 10 := by
  intro x hx
  unfold numsText at hx
  obtain ⟨n, _, hx⟩ := List.mem_flatMap.1 hx
  rcases List.mem_cons.1 hx with h | h
  · subst h; decide
  · exact ne_of_range (dec_range _ x h) (.inl (by decide))
theorem cmdText_no10 {c : Cmd} (h : cmdOK c) : ∀ x ∈ cmdText c, x ≠ 10 := by
  intro x hx
  unfold cmdText at hx
  rcases List.mem_append.1 hx with hx | hx
  · exact ne_of_range ((takesL_len _ h.1).2.2 x hx) (.inl (by decide))
  · exact numsText_no10 _ x hx
theorem split_nums (ns : List Int) : ∀ w : Bytes, (∀ x ∈ w, x ≠ 32) → splitL 32 (w ++ numsText ns) = w :: ns.map fun n => Lib.decDigits n.toNat := by
  induction ns with
  | nil =>
    intro w hw
    have e : numsText [] = [] := rfl
    rw [e, List.append_nil, splitL_one 32 w hw]
    rfl
  | cons n ns ih =>
    intro w hw
    have e : numsText (n :: ns) = 32 :: (Lib.decDigits n.toNat ++ numsText ns) := rfl
    rw [e, splitL_pre 32 w _ hw, ih _ (fun x hx => ne_of_range (dec_range _ x hx) (.inl (by decide)))]
    rfl
theorem cmd_words {c : Cmd} (h : cmdOK c) : lineWords (cmdText c) = c.1 :: c.2.map fun n => Lib.decDigits n.toNat := by
  have hw := takesL_len _ h.1
  unfold lineWords cmdText
  rw [split_nums c.2 c.1 (fun x hx => ne_of_range (hw.2.2 x hx) (.inl (by decide)))]
  rw [List.filter_eq_self]
  intro a ha
  rcases List.mem_cons.1 ha with h1 | h1
  · subst h1; simpa using hw.2.1
  · obtain ⟨n, _, rfl⟩ := List.mem_map.1 h1
    simpa using (dec_all n.toNat).2.2.2
theorem good_dec {n : Int} (h : u64ok n) : goodNum (Lib.decDigits n.toNat) = true ∧ numOf (Lib.decDigits n.toNat) = n := by
  have hv := (dec_all n.toNat).2.1
  have h0 := h.1
  have h1 := h.2
  unfold goodNum numOf
  rw [hv, numeral_dec]
  exact ⟨by rw [Bool.true_and, decide_eq_true_eq]; omega, by omega⟩
theorem cmd_spec {c : Cmd} (h : cmdOK c) : cmdSpec (c.1 :: c.2.map fun n => Lib.decDigits n.toNat) = (c.1, c.2, 0) := by
  have hg : ∀ ns : List Int, (∀ n ∈ ns, u64ok n) → (ns.map fun n => Lib.decDigits n.toNat).all goodNum = true ∧ (ns.map fun n => Lib.decDigits n.toNat).map numOf = ns := by
    intro ns
    induction ns with
    | nil => intro _; exact ⟨rfl, rfl⟩
    | cons n ns ih =>
      intro h
      have h1 := good_dec (h n List.mem_cons_self)
      have h2 := ih (fun m hm => h m (List.mem_cons_of_mem _ hm))
      refine ⟨?_, ?_⟩
      · rw [List.map_cons, List.all_cons, h1.1, h2.1]; rfl
      · rw [List.map_cons, List.map_cons, h1.2, h2.2]
  obtain ⟨g1, g2⟩ := hg c.2 h.2.2
  simp only [cmdSpec]
  rw [if_neg h.1, List.length_map, if_neg (fun e => e h.2.1), if_pos g1, g2]
theorem cmd_note {c : Cmd} (h : cmdOK c) (l : List Bytes) : isNote (c.1 :: l) = false := by
  have hw := takesL_len _ h.1
  cases hc : c.1 with
  | nil => exact absurd hc hw.2.1
  | cons b t =>
    have hb := hw.2.2 b (by rw [hc]; exact List.mem_cons_self)
    have hne : b ≠ 35 := ne_of_range hb (.inl (by decide))
    unfold isNote
    split
    · next h2 => injection h2 with h2 _; injection h2 with h2 _; exact absurd h2 hne
    · rfl
theorem split_text (cs : List Cmd) (h : ∀ c ∈ cs, cmdOK c) : splitL 10 (scriptText cs) = cs.map cmdText ++ [[]] := by
  induction cs with
  | nil => rfl
  | cons c cs ih =>
    have e : scriptText (c :: cs) = cmdText c ++ 10 :: scriptText cs := by simp [scriptText]
    rw [e, splitL_pre 10 _ _ (cmdText_no10 (h c List.mem_cons_self)), ih (fun d hd => h d (List.mem_cons_of_mem _ hd))]
    rfl
theorem parse_cmds (cs : List Cmd) (h : ∀ c ∈ cs, cmdOK c) : ∀ (l : List Cmd) (at_ : Int), l.length + cs.length ≤ 4096 → parseW ((cs.map cmdText ++ [[]]).map lineWords) l at_ = (l ++ cs, 0, 0) := by
  induction cs with
  | nil => intro l at_ hn; simp [parseW, lineWords, splitL]
  | cons c cs ih =>
    intro l at_ hn
    have hc := h c List.mem_cons_self
    simp only [List.length_cons] at hn
    simp only [List.map_cons, List.cons_append, parseW]
    rw [cmd_words hc, if_neg (by simp), cmd_note hc, if_neg (by decide), if_neg (by omega), cmd_spec hc]
    simp only []
    rw [if_pos trivial, ih (fun d hd => h d (List.mem_cons_of_mem _ hd)) _ _ (by rw [List.length_append]; simp only [List.length_cons, List.length_nil]; omega)]
    simp
/-- THERE AND BACK. -/
theorem parse_text (cs : List Cmd) (h : ∀ c ∈ cs, cmdOK c) (hn : cs.length ≤ 4096) (hl : (scriptText cs).length ≤ 65536) : parseT (scriptText cs) = (cs, 0, 0) := by
  unfold parseT
  rw [if_neg (by omega), parseS_W, split_text cs h, parse_cmds cs h [] 0 (by simpa using hn)]
  rfl
/-- Lines ahead of others. -/
theorem parseW_ahead (ps : List (List Bytes)) : ∀ (l r : List Cmd) (at_ at2 z : Int), (parseW ps l at_ = (l ++ r, z, 0)) → ∀ (l' : List Cmd) (qs : List (List Bytes)), l'.length + r.length ≤ 4096 → parseW (ps ++ qs) l' at2 = parseW qs (l' ++ r) (at2 + ps.length) := by
  induction ps with
  | nil =>
    intro l r at_ at2 z h l' qs hn
    simp only [parseW, Prod.mk.injEq] at h
    have hr : r = [] := by have := congrArg List.length h.1; rw [List.length_append] at this; exact List.eq_nil_of_length_eq_zero (by omega)
    subst hr
    simp
  | cons ws ps ih =>
    intro l r at_ at2 z h l' qs hn
    have ea : at2 + ((ws :: ps).length : Int) = (at2 + 1) + (ps.length : Int) := by simp only [List.length_cons]; omega
    rw [ea]
    simp only [parseW] at h
    rw [List.cons_append]
    simp only [parseW]
    by_cases h0 : ws = []
    · rw [if_pos h0] at h ⊢
      exact ih l r _ _ z h l' qs hn
    · rw [if_neg h0] at h ⊢
      by_cases h1 : isNote ws = true
      · rw [if_pos h1] at h ⊢
        exact ih l r _ _ z h l' qs hn
      · rw [if_neg h1] at h ⊢
        by_cases h2 : l.length = 4096
        · rw [if_pos h2] at h
          simp at h
        · rw [if_neg h2] at h
          by_cases h3 : (cmdSpec ws).2.2 = 0
          · rw [if_pos h3] at h
            -- what is read begins with this line's command
            have hpre : ∀ (ps : List (List Bytes)) (a : List Cmd) (at_ : Int), (parseW ps a at_).2.2 = 0 → ∃ t, (parseW ps a at_).1 = a ++ t := by
              intro ps
              induction ps with
              | nil => intro a at_ _; exact ⟨[], by simp [parseW]⟩
              | cons w ps ihp =>
                intro a at_ hh
                simp only [parseW] at hh ⊢
                by_cases g0 : w = []
                · rw [if_pos g0] at hh ⊢; exact ihp a _ hh
                · rw [if_neg g0] at hh ⊢
                  by_cases g1 : isNote w = true
                  · rw [if_pos g1] at hh ⊢; exact ihp a _ hh
                  · rw [if_neg g1] at hh ⊢
                    by_cases g2 : a.length = 4096
                    · rw [if_pos g2] at hh; simp at hh
                    · rw [if_neg g2] at hh ⊢
                      by_cases g3 : (cmdSpec w).2.2 = 0
                      · rw [if_pos g3] at hh ⊢
                        obtain ⟨t, ht⟩ := ihp _ _ hh
                        exact ⟨((cmdSpec w).1, (cmdSpec w).2.1) :: t, by rw [ht]; simp⟩
                      · rw [if_neg g3] at hh; exact absurd hh g3
            obtain ⟨t, ht⟩ := hpre ps (l ++ [((cmdSpec ws).1, (cmdSpec ws).2.1)]) (at_ + 1) (by rw [h])
            rw [h] at ht
            simp only [List.append_assoc] at ht
            have hr : r = [((cmdSpec ws).1, (cmdSpec ws).2.1)] ++ t := List.append_cancel_left ht
            subst hr
            simp only [List.length_append, List.length_cons, List.length_nil] at hn
            rw [if_neg (by omega), if_pos h3]
            have := ih (l ++ [((cmdSpec ws).1, (cmdSpec ws).2.1)]) t (at_ + 1) (at2 + 1) z (by rw [h]; simp) (l' ++ [((cmdSpec ws).1, (cmdSpec ws).2.1)]) qs (by simp only [List.length_append, List.length_cons, List.length_nil]; omega)
            rw [this]
            simp
          · rw [if_neg h3] at h
            simp at h
            exact absurd h.2.2 h3
theorem splitL_append (c : UInt8) (a b : Bytes) : splitL c (a ++ c :: b) = splitL c a ++ splitL c b := by
  induction a with
  | nil => rw [List.nil_append, splitL_cons, if_pos (by simp)]; rfl
  | cons x a ih =>
    rw [List.cons_append, splitL_cons, splitL_cons]
    by_cases hx : (x == c) = true
    · rw [if_pos hx, if_pos hx, ih]; rfl
    · rw [if_neg hx, if_neg hx, ih]
      cases hs : splitL c a with
      | nil => exact absurd hs (splitL_ne c a)
      | cons p ps => rfl
/-- PUT TOGETHER. -/
theorem parse_joined (a b : Bytes) (l m : List Cmd) (x y : Int) (ha : parseT a = (l, x, 0)) (hb : parseT b = (m, y, 0)) (hn : a.length + 1 + b.length ≤ 65536) (hl : l.length + m.length ≤ 4096) : parseT (a ++ [10] ++ b) = (l ++ m, 0, 0) := by
  unfold parseT at ha hb ⊢
  rw [if_neg (by omega), parseS_W] at ha hb
  rw [if_neg (by simp only [List.length_append, List.length_cons, List.length_nil]; omega), parseS_W, List.append_assoc, show [10] ++ b = 10 :: b from rfl, splitL_append, List.map_append,
    parseW_ahead _ [] l 0 0 x (by simpa using ha) [] _ (by simp only [List.length_nil]; omega)]
  have h2 := parseW_ahead ((splitL 10 b).map lineWords) [] m 0 (0 + (((splitL 10 a).map lineWords).length : Int)) y (by simpa using hb) ([] ++ l) [] (by simpa using hl)
  rw [List.append_nil] at h2
  rw [h2]
  simp [parseW]
end Go.Proofs.YtlfoaaeelcmhiaaDoor.Pure
end

section
-- Written by a program of this session (wip/gprint.py: the kit's print, with contracts proved by hand)
namespace Go.Proofs.YtlfoaaeelcmhiaaDoor.G
open Go.RowKit Go.Proofs.YtlfoaaeelcmhiaaDoorW.PrintWords Go.Proofs.YtlfoaaeelcmhiaaDoorW.PrintLast Go.Proofs.YtlfoaaeelcmhiaaDoorW.PrintMore
attribute [local go_sem] max2_int min2_int max_two min_two max_three min_three max_four min_four   -- for this text's walks alone
set_option linter.unusedVariables false
set_option linter.unusedSimpArgs false

/-! ### inclinelaw21_same: function 14 -/
mutual
def inclinelaw21_same.l0 : Nat → List (S30) → List (S30) → Int → Option (Bool)
  | 0, _, _, _ => none
  | k + 1, x0, x1, x5 => if x5 < (x0.length : Int) then (if 0 ≤ x5 then (if x5 < (x1.length : Int) then (if ((rd_T30 x0 x5).f0).toList = ((rd_T30 x1 x5).f0).toList then (inclinelaw21_same.j1 k x0 x1 x5 ((((rd_T30 x0 x5).f1).length : Int) != (((rd_T30 x1 x5).f1).length : Int))) else (inclinelaw21_same.j1 k x0 x1 x5 true)) else (none)) else (none)) else (some true)
def inclinelaw21_same.j1 : Nat → List (S30) → List (S30) → Int → Bool → Option (Bool)
  | 0, _, _, _, _ => none
  | k + 1, x0, x1, x5, x43 => if x43 = true then (some false) else (inclinelaw21_same.l1 k x0 x1 x5 0)
def inclinelaw21_same.l1 : Nat → List (S30) → List (S30) → Int → Int → Option (Bool)
  | 0, _, _, _, _ => none
  | k + 1, x0, x1, x5, x6 => if 0 ≤ x5 then (if x5 < (x0.length : Int) then (if x6 < (((rd_T30 x0 x5).f1).length : Int) then (if 0 ≤ x6 then (if x5 < (x1.length : Int) then (if x6 < (((rd_T30 x1 x5).f1).length : Int) then (if (rd ((rd_T30 x0 x5).f1) x6) = (rd ((rd_T30 x1 x5).f1) x6) then (inclinelaw21_same.l1 k x0 x1 x5 (wrap64 (x6 + 1))) else (some false)) else (none)) else (none)) else (none)) else (inclinelaw21_same.l0 k x0 x1 (wrap64 (x5 + 1)))) else (none)) else (none)
end
def inclinelaw21_same.f (k : Nat) (l0 : List (S30)) (l1 : List (S30)) : Option (Bool) := if (l0.length : Int) = (l1.length : Int) then (inclinelaw21_same.l0 k l0 l1 0) else (some false)
theorem inclinelaw21_same.mono_l : ∀ k, (∀ y0 y1 y2, LeO (inclinelaw21_same.l0 k y0 y1 y2) (inclinelaw21_same.l0 (k + 1) y0 y1 y2)) ∧ (∀ y0 y1 y2 y3, LeO (inclinelaw21_same.j1 k y0 y1 y2 y3) (inclinelaw21_same.j1 (k + 1) y0 y1 y2 y3)) ∧ (∀ y0 y1 y2 y3, LeO (inclinelaw21_same.l1 k y0 y1 y2 y3) (inclinelaw21_same.l1 (k + 1) y0 y1 y2 y3))
  | 0 => ⟨fun _ _ _ r h => by simp [inclinelaw21_same.l0] at h, fun _ _ _ _ r h => by simp [inclinelaw21_same.j1] at h, fun _ _ _ _ r h => by simp [inclinelaw21_same.l1] at h⟩
  | k + 1 => by
    obtain ⟨ih0, ih1, ih2⟩ := inclinelaw21_same.mono_l k
    refine ⟨?_, ?_, ?_⟩
    · intro y0 y1 y2
      unfold inclinelaw21_same.l0
      repeat' first
      | (with_reducible exact ih0 _ _ _)
      | (with_reducible exact ih1 _ _ _ _)
      | (with_reducible exact ih2 _ _ _ _)
      | (with_reducible exact LeO.refl _)
      | (with_reducible exact LeO.none _)
      | (with_reducible refine LeO.ite ?_ ?_)
      | (with_reducible refine LeO.bind ?_ (fun _ => ?_))
      | exact ih0 _ _ _
      | exact ih1 _ _ _ _
      | exact ih2 _ _ _ _
      | exact LeO.none _
      | refine LeO.ite ?_ ?_
      | refine LeO.bind ?_ (fun _ => ?_)
    · intro y0 y1 y2 y3
      unfold inclinelaw21_same.j1
      repeat' first
      | (with_reducible exact ih0 _ _ _)
      | (with_reducible exact ih1 _ _ _ _)
      | (with_reducible exact ih2 _ _ _ _)
      | (with_reducible exact LeO.refl _)
      | (with_reducible exact LeO.none _)
      | (with_reducible refine LeO.ite ?_ ?_)
      | (with_reducible refine LeO.bind ?_ (fun _ => ?_))
      | exact ih0 _ _ _
      | exact ih1 _ _ _ _
      | exact ih2 _ _ _ _
      | exact LeO.none _
      | refine LeO.ite ?_ ?_
      | refine LeO.bind ?_ (fun _ => ?_)
    · intro y0 y1 y2 y3
      unfold inclinelaw21_same.l1
      repeat' first
      | (with_reducible exact ih0 _ _ _)
      | (with_reducible exact ih1 _ _ _ _)
      | (with_reducible exact ih2 _ _ _ _)
      | (with_reducible exact LeO.refl _)
      | (with_reducible exact LeO.none _)
      | (with_reducible refine LeO.ite ?_ ?_)
      | (with_reducible refine LeO.bind ?_ (fun _ => ?_))
      | exact ih0 _ _ _
      | exact ih1 _ _ _ _
      | exact ih2 _ _ _ _
      | exact LeO.none _
      | refine LeO.ite ?_ ?_
      | refine LeO.bind ?_ (fun _ => ?_)
theorem inclinelaw21_same.mono : ∀ a0 a1 k, LeO (inclinelaw21_same.f k a0 a1) (inclinelaw21_same.f (k + 1) a0 a1) := by
  intro a0 a1 k
  obtain ⟨ih0, ih1, ih2⟩ := inclinelaw21_same.mono_l k
  unfold inclinelaw21_same.f
  repeat' first
      | (with_reducible exact ih0 _ _ _)
      | (with_reducible exact ih1 _ _ _ _)
      | (with_reducible exact ih2 _ _ _ _)
      | (with_reducible exact LeO.refl _)
      | (with_reducible exact LeO.none _)
      | (with_reducible refine LeO.ite ?_ ?_)
      | (with_reducible refine LeO.bind ?_ (fun _ => ?_))
      | exact ih0 _ _ _
      | exact ih1 _ _ _ _
      | exact ih2 _ _ _ _
      | exact LeO.none _
      | refine LeO.ite ?_ ?_
      | refine LeO.bind ?_ (fun _ => ?_)
set_option maxHeartbeats 8000000 in
set_option maxRecDepth 100000 in
theorem inclinelaw21_same.calls (k : Nat) (A0 : Option Addr) (c0 : Nat) (l0 : List (S30)) (A1 : Option Addr) (c1 : Nat) (l1 : List (S30)) (r : Bool) (w : World) (hr0 : Kd.C k30 w A0 l0.length l0) (hc0 : l0.length ≤ c0) (hr1 : Kd.C k30 w A1 l1.length l1) (hc1 : l1.length ≤ c1) (h : inclinelaw21_same.f k l0 l1 = some r) :
    Calls Tryd.prog 14 #[.slice A0 l0.length c0, .slice A1 l1.length c1] w fun e w' => e = .returned (.bool r) ∧ Drawn0 w w' := by
  have HR0 := Aside0.mk hr0
  have HC0 := Aside0.mk hc0
  clear hr0 hc0
  have HR1 := Aside0.mk hr1
  have HC1 := Aside0.mk hc1
  clear hr1 hc1
  have H : (if (l0.length : Int) = (l1.length : Int) then (inclinelaw21_same.l0 k l0 l1 0) else (some false)) = some r := h
  clear h
  by_cases c3 : (l0.length : Int) = (l1.length : Int)
  · rw [if_pos c3] at H
    have c3b0 : ((l0.length : Int) == (l1.length : Int)) = true := beq_iff_eq.mpr c3
    have c3b1 : ((l0.length : Int) != (l1.length : Int)) = false := bne_eq_false_iff_eq.mpr c3
    have c3b2 : (l0.length == l1.length) = true := by first | simpa using c3 | (simp at c3 ⊢; omega)
    clear c3
    have H' := Aside0.mk H
    clear H
    go_enter Tryd.func14, Tryd.ntmps14
    go_wp2
    repeat (go_quiet (fail); try go_wp2)
    go_loopg [5] k (fun kq v5 w' => ∃ (x5_1 : Int), v5 = .int .i64 x5_1 ∧ Aside0 (inclinelaw21_same.l0 kq l0 l1 x5_1 = some r) ∧ Aside0 (kq ≤ k) ∧ Drawn0 w w')
    case atStart => exact ⟨(0), (by first | rfl | (simp; done) | (simp [*]; done)), H', ⟨Nat.le_refl _⟩, by repeat (first | exact Drawn0.refl _ | apply Drawn0.step)⟩
    case round =>
      clear H'
      try clear c1
      try clear p2
      try clear c3
      try clear c3b0
      try clear c3b1
      try clear c3b2
      obtain ⟨x5_1, rfl, HA, HK1, ⟨m1, rfl⟩⟩ := hrel
      cases gk with
      | zero => exact absurd HA.out (by simp [inclinelaw21_same.l0])
      | succ k1 =>
        have H := HA.out
        clear HA
        simp only [inclinelaw21_same.l0] at H
        by_cases c4 : x5_1 < (l0.length : Int)
        · rw [if_pos c4] at H
          have c4b0 : decide (x5_1 < (l0.length : Int)) = true := decide_eq_true c4
          clear c4
          have HC5 := Aside0.mk H
          clear H
          go_upto_region 6 with (fail)
          repeat (go_quiet (fail); go_upto_region 6 with (fail))
          go_cut [43] (fun v43 wc => ∃ (kq : Nat) (x43_4 : Bool), v43 = .bool x43_4 ∧ Aside0 (inclinelaw21_same.j1 kq l0 l1 x5_1 x43_4 = some r) ∧ Aside0 (kq ≤ k1) ∧ Drawn0 w wc)
          case first =>
            have H := HC5.out
            clear HC5
            by_cases c6 : 0 ≤ x5_1
            · rw [if_pos c6] at H
              have c6b0 : decide (0 ≤ x5_1) = true := decide_eq_true c6
              clear c6
              (first | rw [c6b0] | (simp only [i64_w, i32_w]; rw [c6b0]) | skip)
              by_cases c7 : x5_1 < (l1.length : Int)
              · rw [if_pos c7] at H
                have c7b0 : decide (x5_1 < (l1.length : Int)) = true := decide_eq_true c7
                clear c7
                by_cases c8 : ((rd_T30 l0 x5_1).f0).toList = ((rd_T30 l1 x5_1).f0).toList
                · rw [if_pos c8] at H
                  have c8b0 : (((rd_T30 l0 x5_1).f0).toList == ((rd_T30 l1 x5_1).f0).toList) = true := beq_iff_eq.mpr c8
                  have c8b1 : (((rd_T30 l0 x5_1).f0).toList != ((rd_T30 l1 x5_1).f0).toList) = false := bne_eq_false_iff_eq.mpr c8
                  clear c8
                  have H' := Aside0.mk H
                  clear H
                  have p114 : 0 ≤ (x5_1 : Int) := of_decide_eq_true (by first | (with_reducible assumption) | assumption)
                  have q114 : x5_1 < (l0.length : Int) := of_decide_eq_true (by first | (with_reducible assumption) | assumption)
                  obtain ⟨ad114, A114_1, c114_1, e114, hx114_0, hx114_1, hl114_1, hi114_1⟩ := at_T30 HR0.out x5_1 p114 q114
                  cases e114
                  have HR114_1 := Aside0.mk hi114_1
                  have HC114_1 := Aside0.mk hl114_1
                  clear hi114_1 hl114_1
                  replace p114 := eq_true p114
                  replace q114 := eq_true q114
                  have p115 : 0 ≤ (x5_1 : Int) := of_decide_eq_true (by first | (with_reducible assumption) | assumption)
                  have q115 : x5_1 < (l1.length : Int) := of_decide_eq_true (by first | (with_reducible assumption) | assumption)
                  obtain ⟨ad115, A115_1, c115_1, e115, hx115_0, hx115_1, hl115_1, hi115_1⟩ := at_T30 HR1.out x5_1 p115 q115
                  cases e115
                  have HR115_1 := Aside0.mk hi115_1
                  have HC115_1 := Aside0.mk hl115_1
                  clear hi115_1 hl115_1
                  replace p115 := eq_true p115
                  replace q115 := eq_true q115
                  have p116 : 0 ≤ (x5_1 : Int) := of_decide_eq_true (by first | (with_reducible assumption) | assumption)
                  have q116 : x5_1 < (l0.length : Int) := of_decide_eq_true (by first | (with_reducible assumption) | assumption)
                  obtain ⟨ad116, A116_1, c116_1, e116, hx116_0, hx116_1, hl116_1, hi116_1⟩ := at_T30 HR0.out x5_1 p116 q116
                  obtain rfl : ad114 = ad116 := (by injection e116)
                  have HR116_1 := Aside0.mk hi116_1
                  have HC116_1 := Aside0.mk hl116_1
                  clear hi116_1 hl116_1
                  replace p116 := eq_true p116
                  replace q116 := eq_true q116
                  have ea_ := Option.some.inj (hx114_1.symm.trans hx116_1)
                  injection ea_ with ea_ en_ ec_
                  subst ea_
                  subst ec_
                  clear en_
                  have p117 : 0 ≤ (x5_1 : Int) := of_decide_eq_true (by first | (with_reducible assumption) | assumption)
                  have q117 : x5_1 < (l1.length : Int) := of_decide_eq_true (by first | (with_reducible assumption) | assumption)
                  obtain ⟨ad117, A117_1, c117_1, e117, hx117_0, hx117_1, hl117_1, hi117_1⟩ := at_T30 HR1.out x5_1 p117 q117
                  obtain rfl : ad115 = ad117 := (by injection e117)
                  have HR117_1 := Aside0.mk hi117_1
                  have HC117_1 := Aside0.mk hl117_1
                  clear hi117_1 hl117_1
                  replace p117 := eq_true p117
                  replace q117 := eq_true q117
                  have ea_ := Option.some.inj (hx115_1.symm.trans hx117_1)
                  injection ea_ with ea_ en_ ec_
                  subst ea_
                  subst ec_
                  clear en_
                  go_wp2
                  repeat (go_quiet (fail); try go_wp2)
                  go_meet
                  case rel => exact ⟨_, (((((rd_T30 l0 x5_1).f1).length : Int) != (((rd_T30 l1 x5_1).f1).length : Int))), (by first | rfl | (simp; done) | (simp [*]; done)), H', ⟨by have := HK1.out; first | omega | exact Nat.le_refl _⟩, by repeat (first | exact Drawn0.refl _ | apply Drawn0.step)⟩
                · rw [if_neg c8] at H
                  have c8b0 : (((rd_T30 l0 x5_1).f0).toList == ((rd_T30 l1 x5_1).f0).toList) = false := beq_eq_false_iff_ne.mpr c8
                  have c8b1 : (((rd_T30 l0 x5_1).f0).toList != ((rd_T30 l1 x5_1).f0).toList) = true := bne_iff_ne.mpr c8
                  have H' := Aside0.mk H
                  clear H
                  have p114 : 0 ≤ (x5_1 : Int) := of_decide_eq_true (by first | (with_reducible assumption) | assumption)
                  have q114 : x5_1 < (l0.length : Int) := of_decide_eq_true (by first | (with_reducible assumption) | assumption)
                  obtain ⟨ad114, A114_1, c114_1, e114, hx114_0, hx114_1, hl114_1, hi114_1⟩ := at_T30 HR0.out x5_1 p114 q114
                  cases e114
                  have HR114_1 := Aside0.mk hi114_1
                  have HC114_1 := Aside0.mk hl114_1
                  clear hi114_1 hl114_1
                  replace p114 := eq_true p114
                  replace q114 := eq_true q114
                  have p115 : 0 ≤ (x5_1 : Int) := of_decide_eq_true (by first | (with_reducible assumption) | assumption)
                  have q115 : x5_1 < (l1.length : Int) := of_decide_eq_true (by first | (with_reducible assumption) | assumption)
                  obtain ⟨ad115, A115_1, c115_1, e115, hx115_0, hx115_1, hl115_1, hi115_1⟩ := at_T30 HR1.out x5_1 p115 q115
                  cases e115
                  have HR115_1 := Aside0.mk hi115_1
                  have HC115_1 := Aside0.mk hl115_1
                  clear hi115_1 hl115_1
                  replace p115 := eq_true p115
                  replace q115 := eq_true q115
                  go_wp2
                  repeat (go_quiet (fail); try go_wp2)
                  go_meet
                  case rel => exact ⟨_, (true), (by first | rfl | (simp; done) | (simp [*]; done)), H', ⟨by have := HK1.out; first | omega | exact Nat.le_refl _⟩, by repeat (first | exact Drawn0.refl _ | apply Drawn0.step)⟩
              · rw [if_neg c7] at H
                exact absurd H (by simp)
            · rw [if_neg c6] at H
              exact absurd H (by simp)
          case rest =>
            clear HC5
            try clear c1
            try clear p1
            try clear q1
            try clear hx1
            try clear p2
            try clear c3
            try clear c3b0
            try clear c3b1
            try clear c3b2
            try clear c4
            try clear c4b0
            try clear c6
            try clear c6b0
            try clear c7
            try clear c7b0
            try clear c8
            try clear c8b0
            try clear c8b1
            try clear hx114_0
            try clear hx114_1
            try clear hx115_0
            try clear hx115_1
            try clear hx116_0
            try clear hx116_1
            try clear hx117_0
            try clear hx117_1
            try clear p114
            try clear p115
            try clear p116
            try clear p117
            try clear p2
            try clear q114
            try clear q115
            try clear q116
            try clear q117
            obtain ⟨kq, x43_4, rfl, HA, HJ4, ⟨mc4, rfl⟩⟩ := hcut
            cases kq with
            | zero => exact absurd HA.out (by simp [inclinelaw21_same.j1])
            | succ kj4 =>
              have H := HA.out
              clear HA
              simp only [inclinelaw21_same.j1] at H
              by_cases c9 : x43_4 = true
              · subst c9
                have H1 : (some false) = some r := by rw [if_pos rfl] at H; exact H
                clear H
                have H := H1
                clear H1
                obtain rfl := Option.some.inj H
                go_wp2
                repeat (go_quiet (fail); try go_wp2)
                go_ret
                exact ⟨by first | rfl | (simp; done) | (simp [*]; done), by repeat (first | exact Drawn0.refl _ | apply Drawn0.step)⟩
              · replace c9 := Bool.eq_false_iff.mpr c9
                subst c9
                have H1 : (inclinelaw21_same.l1 kj4 l0 l1 x5_1 0) = some r := by rw [if_neg (show ¬ (false = true) by decide)] at H; exact H
                clear H
                have H := H1
                clear H1
                have H' := Aside0.mk H
                clear H
                go_wp2
                repeat (go_quiet (fail); try go_wp2)
                go_loopg [6] kj4 (fun kq v6 w' => ∃ (x6_3 : Int), v6 = .int .i64 x6_3 ∧ Aside0 (inclinelaw21_same.l1 kq l0 l1 x5_1 x6_3 = some r) ∧ Aside0 (kq ≤ kj4) ∧ Drawn0 w w')
                case atStart => exact ⟨(0), (by first | rfl | (simp; done) | (simp [*]; done)), H', ⟨Nat.le_refl _⟩, by repeat (first | exact Drawn0.refl _ | apply Drawn0.step)⟩
                case round =>
                  clear H'
                  try clear c1
                  try clear p1
                  try clear q1
                  try clear hx1
                  try clear p2
                  try clear c3
                  try clear c3b0
                  try clear c3b1
                  try clear c3b2
                  try clear c4
                  try clear c4b0
                  try clear c6
                  try clear c6b0
                  try clear c7
                  try clear c7b0
                  try clear c8
                  try clear c8b0
                  try clear c8b1
                  try clear c9
                  try clear hx114_0
                  try clear hx114_1
                  try clear hx115_0
                  try clear hx115_1
                  try clear hx116_0
                  try clear hx116_1
                  try clear hx117_0
                  try clear hx117_1
                  try clear p1
                  try clear p114
                  try clear p115
                  try clear p116
                  try clear p117
                  try clear p2
                  try clear q1
                  try clear q114
                  try clear q115
                  try clear q116
                  try clear q117
                  obtain ⟨x6_3, rfl, HA, HK3, ⟨m3, rfl⟩⟩ := hrel
                  cases gk with
                  | zero => exact absurd HA.out (by simp [inclinelaw21_same.l1])
                  | succ k3 =>
                    have H := HA.out
                    clear HA
                    simp only [inclinelaw21_same.l1] at H
                    by_cases c10 : 0 ≤ x5_1
                    · rw [if_pos c10] at H
                      have c10b0 : decide (0 ≤ x5_1) = true := decide_eq_true c10
                      clear c10
                      by_cases c11 : x5_1 < (l0.length : Int)
                      · rw [if_pos c11] at H
                        have c11b0 : decide (x5_1 < (l0.length : Int)) = true := decide_eq_true c11
                        clear c11
                        by_cases c12 : x6_3 < (((rd_T30 l0 x5_1).f1).length : Int)
                        · rw [if_pos c12] at H
                          have c12b0 : decide (x6_3 < (((rd_T30 l0 x5_1).f1).length : Int)) = true := decide_eq_true c12
                          clear c12
                          by_cases c13 : 0 ≤ x6_3
                          · rw [if_pos c13] at H
                            have c13b0 : decide (0 ≤ x6_3) = true := decide_eq_true c13
                            clear c13
                            by_cases c14 : x5_1 < (l1.length : Int)
                            · rw [if_pos c14] at H
                              have c14b0 : decide (x5_1 < (l1.length : Int)) = true := decide_eq_true c14
                              clear c14
                              by_cases c15 : x6_3 < (((rd_T30 l1 x5_1).f1).length : Int)
                              · rw [if_pos c15] at H
                                have c15b0 : decide (x6_3 < (((rd_T30 l1 x5_1).f1).length : Int)) = true := decide_eq_true c15
                                clear c15
                                by_cases c16 : (rd ((rd_T30 l0 x5_1).f1) x6_3) = (rd ((rd_T30 l1 x5_1).f1) x6_3)
                                · rw [if_pos c16] at H
                                  have c16b0 : ((rd ((rd_T30 l0 x5_1).f1) x6_3) == (rd ((rd_T30 l1 x5_1).f1) x6_3)) = true := beq_iff_eq.mpr c16
                                  have c16b1 : ((rd ((rd_T30 l0 x5_1).f1) x6_3) != (rd ((rd_T30 l1 x5_1).f1) x6_3)) = false := bne_eq_false_iff_eq.mpr c16
                                  clear c16
                                  have H' := Aside0.mk H
                                  clear H
                                  have p118 : 0 ≤ (x5_1 : Int) := of_decide_eq_true (by first | (with_reducible assumption) | assumption)
                                  have q118 : x5_1 < (l0.length : Int) := of_decide_eq_true (by first | (with_reducible assumption) | assumption)
                                  obtain ⟨ad118, A118_1, c118_1, e118, hx118_0, hx118_1, hl118_1, hi118_1⟩ := at_T30 HR0.out x5_1 p118 q118
                                  cases e118
                                  have HR118_1 := Aside0.mk hi118_1
                                  have HC118_1 := Aside0.mk hl118_1
                                  clear hi118_1 hl118_1
                                  replace p118 := eq_true p118
                                  replace q118 := eq_true q118
                                  have p119 : 0 ≤ (x5_1 : Int) := of_decide_eq_true (by first | (with_reducible assumption) | assumption)
                                  have q119 : x5_1 < (l0.length : Int) := of_decide_eq_true (by first | (with_reducible assumption) | assumption)
                                  obtain ⟨ad119, A119_1, c119_1, e119, hx119_0, hx119_1, hl119_1, hi119_1⟩ := at_T30 HR0.out x5_1 p119 q119
                                  obtain rfl : ad118 = ad119 := (by injection e119)
                                  have HR119_1 := Aside0.mk hi119_1
                                  have HC119_1 := Aside0.mk hl119_1
                                  clear hi119_1 hl119_1
                                  replace p119 := eq_true p119
                                  replace q119 := eq_true q119
                                  have ea_ := Option.some.inj (hx118_1.symm.trans hx119_1)
                                  injection ea_ with ea_ en_ ec_
                                  subst ea_
                                  subst ec_
                                  clear en_
                                  have p120 : 0 ≤ (x6_3 : Int) := of_decide_eq_true (by first | (with_reducible assumption) | assumption)
                                  have q120 : x6_3 < (((rd_T30 l0 x5_1).f1).length : Int) := of_decide_eq_true (by first | (with_reducible assumption) | assumption)
                                  obtain ⟨ad120, e120, hx120_0⟩ := Kd.at_int HR119_1.out x6_3 p120 q120
                                  cases e120
                                  replace p120 := eq_true p120
                                  replace q120 := eq_true q120
                                  have p121 : 0 ≤ (x5_1 : Int) := of_decide_eq_true (by first | (with_reducible assumption) | assumption)
                                  have q121 : x5_1 < (l1.length : Int) := of_decide_eq_true (by first | (with_reducible assumption) | assumption)
                                  obtain ⟨ad121, A121_1, c121_1, e121, hx121_0, hx121_1, hl121_1, hi121_1⟩ := at_T30 HR1.out x5_1 p121 q121
                                  cases e121
                                  have HR121_1 := Aside0.mk hi121_1
                                  have HC121_1 := Aside0.mk hl121_1
                                  clear hi121_1 hl121_1
                                  replace p121 := eq_true p121
                                  replace q121 := eq_true q121
                                  have p122 : 0 ≤ (x6_3 : Int) := of_decide_eq_true (by first | (with_reducible assumption) | assumption)
                                  have q122 : x6_3 < (((rd_T30 l1 x5_1).f1).length : Int) := of_decide_eq_true (by first | (with_reducible assumption) | assumption)
                                  obtain ⟨ad122, e122, hx122_0⟩ := Kd.at_int HR121_1.out x6_3 p122 q122
                                  cases e122
                                  replace p122 := eq_true p122
                                  replace q122 := eq_true q122
                                  go_wp2
                                  repeat (go_quiet (fail); try go_wp2)
                                  go_roundg k3
                                  case measure => have := HK1.out; have := HJ4.out; have := HK3.out; omega
                                  case rel => exact ⟨(wrap64 (x6_3 + 1)), (by first | rfl | (simp; done) | (simp [*]; done)), H', ⟨by have := HK1.out; have := HJ4.out; have := HK3.out; omega⟩, by repeat (first | exact Drawn0.refl _ | apply Drawn0.step)⟩
                                · rw [if_neg c16] at H
                                  have c16b0 : ((rd ((rd_T30 l0 x5_1).f1) x6_3) == (rd ((rd_T30 l1 x5_1).f1) x6_3)) = false := beq_eq_false_iff_ne.mpr c16
                                  have c16b1 : ((rd ((rd_T30 l0 x5_1).f1) x6_3) != (rd ((rd_T30 l1 x5_1).f1) x6_3)) = true := bne_iff_ne.mpr c16
                                  obtain rfl := Option.some.inj H
                                  have p118 : 0 ≤ (x5_1 : Int) := of_decide_eq_true (by first | (with_reducible assumption) | assumption)
                                  have q118 : x5_1 < (l0.length : Int) := of_decide_eq_true (by first | (with_reducible assumption) | assumption)
                                  obtain ⟨ad118, A118_1, c118_1, e118, hx118_0, hx118_1, hl118_1, hi118_1⟩ := at_T30 HR0.out x5_1 p118 q118
                                  cases e118
                                  have HR118_1 := Aside0.mk hi118_1
                                  have HC118_1 := Aside0.mk hl118_1
                                  clear hi118_1 hl118_1
                                  replace p118 := eq_true p118
                                  replace q118 := eq_true q118
                                  have p119 : 0 ≤ (x5_1 : Int) := of_decide_eq_true (by first | (with_reducible assumption) | assumption)
                                  have q119 : x5_1 < (l0.length : Int) := of_decide_eq_true (by first | (with_reducible assumption) | assumption)
                                  obtain ⟨ad119, A119_1, c119_1, e119, hx119_0, hx119_1, hl119_1, hi119_1⟩ := at_T30 HR0.out x5_1 p119 q119
                                  obtain rfl : ad118 = ad119 := (by injection e119)
                                  have HR119_1 := Aside0.mk hi119_1
                                  have HC119_1 := Aside0.mk hl119_1
                                  clear hi119_1 hl119_1
                                  replace p119 := eq_true p119
                                  replace q119 := eq_true q119
                                  have ea_ := Option.some.inj (hx118_1.symm.trans hx119_1)
                                  injection ea_ with ea_ en_ ec_
                                  subst ea_
                                  subst ec_
                                  clear en_
                                  have p120 : 0 ≤ (x6_3 : Int) := of_decide_eq_true (by first | (with_reducible assumption) | assumption)
                                  have q120 : x6_3 < (((rd_T30 l0 x5_1).f1).length : Int) := of_decide_eq_true (by first | (with_reducible assumption) | assumption)
                                  obtain ⟨ad120, e120, hx120_0⟩ := Kd.at_int HR119_1.out x6_3 p120 q120
                                  cases e120
                                  replace p120 := eq_true p120
                                  replace q120 := eq_true q120
                                  have p121 : 0 ≤ (x5_1 : Int) := of_decide_eq_true (by first | (with_reducible assumption) | assumption)
                                  have q121 : x5_1 < (l1.length : Int) := of_decide_eq_true (by first | (with_reducible assumption) | assumption)
                                  obtain ⟨ad121, A121_1, c121_1, e121, hx121_0, hx121_1, hl121_1, hi121_1⟩ := at_T30 HR1.out x5_1 p121 q121
                                  cases e121
                                  have HR121_1 := Aside0.mk hi121_1
                                  have HC121_1 := Aside0.mk hl121_1
                                  clear hi121_1 hl121_1
                                  replace p121 := eq_true p121
                                  replace q121 := eq_true q121
                                  have p122 : 0 ≤ (x6_3 : Int) := of_decide_eq_true (by first | (with_reducible assumption) | assumption)
                                  have q122 : x6_3 < (((rd_T30 l1 x5_1).f1).length : Int) := of_decide_eq_true (by first | (with_reducible assumption) | assumption)
                                  obtain ⟨ad122, e122, hx122_0⟩ := Kd.at_int HR121_1.out x6_3 p122 q122
                                  cases e122
                                  replace p122 := eq_true p122
                                  replace q122 := eq_true q122
                                  go_wp2
                                  repeat (go_quiet (fail); try go_wp2)
                                  go_ret
                                  exact ⟨by first | rfl | (simp; done) | (simp [*]; done), by repeat (first | exact Drawn0.refl _ | apply Drawn0.step)⟩
                              · rw [if_neg c15] at H
                                exact absurd H (by simp)
                            · rw [if_neg c14] at H
                              exact absurd H (by simp)
                          · rw [if_neg c13] at H
                            exact absurd H (by simp)
                        · rw [if_neg c12] at H
                          have c12b0 : decide (x6_3 < (((rd_T30 l0 x5_1).f1).length : Int)) = false := decide_eq_false c12
                          clear c12
                          have H' := Aside0.mk H
                          clear H
                          have p118 : 0 ≤ (x5_1 : Int) := of_decide_eq_true (by first | (with_reducible assumption) | assumption)
                          have q118 : x5_1 < (l0.length : Int) := of_decide_eq_true (by first | (with_reducible assumption) | assumption)
                          obtain ⟨ad118, A118_1, c118_1, e118, hx118_0, hx118_1, hl118_1, hi118_1⟩ := at_T30 HR0.out x5_1 p118 q118
                          cases e118
                          have HR118_1 := Aside0.mk hi118_1
                          have HC118_1 := Aside0.mk hl118_1
                          clear hi118_1 hl118_1
                          replace p118 := eq_true p118
                          replace q118 := eq_true q118
                          go_wp2
                          repeat (go_quiet (fail); try go_wp2)
                          go_roundg k3
                          case measure => have := HK1.out; have := HJ4.out; have := HK3.out; omega
                          case rel => exact ⟨(wrap64 (x5_1 + 1)), (by first | rfl | (simp; done) | (simp [*]; done)), H', ⟨by have := HK1.out; have := HJ4.out; have := HK3.out; omega⟩, by repeat (first | exact Drawn0.refl _ | apply Drawn0.step)⟩
                      · rw [if_neg c11] at H
                        exact absurd H (by simp)
                    · rw [if_neg c10] at H
                      exact absurd H (by simp)
        · rw [if_neg c4] at H
          have c4b0 : decide (x5_1 < (l0.length : Int)) = false := decide_eq_false c4
          clear c4
          obtain rfl := Option.some.inj H
          go_wp2
          repeat (go_quiet (fail); try go_wp2)
          go_ret
          exact ⟨by first | rfl | (simp; done) | (simp [*]; done), by repeat (first | exact Drawn0.refl _ | apply Drawn0.step)⟩
  · rw [if_neg c3] at H
    have c3b0 : ((l0.length : Int) == (l1.length : Int)) = false := beq_eq_false_iff_ne.mpr c3
    have c3b1 : ((l0.length : Int) != (l1.length : Int)) = true := bne_iff_ne.mpr c3
    have c3b2 : (l0.length == l1.length) = false := by first | simpa using c3 | (simp at c3 ⊢; omega)
    obtain rfl := Option.some.inj H
    go_enter Tryd.func14, Tryd.ntmps14
    go_wp2
    repeat (go_quiet (fail); try go_wp2)
    go_ret
    exact ⟨by first | rfl | (simp; done) | (simp [*]; done), by repeat (first | exact Drawn0.refl _ | apply Drawn0.step)⟩

end Go.Proofs.YtlfoaaeelcmhiaaDoor.G
end

section
/- Plain laws, on: same. -/
namespace Go.Proofs.YtlfoaaeelcmhiaaDoor.Pure
open Go.RowKit Go.Proofs.YtlfoaaeelcmhiaaDoor.G
open Go.Proofs.YtlfoaaeelcmhiaaDoorW.PrintWords hiding nums
set_option linter.unusedVariables false
set_option linter.unusedSimpArgs false
theorem same_l1 (l : List S30) (hl : l.length ≤ 17592186044416) (i : Nat) (hi : i < l.length) (hn : ∀ c ∈ l, c.f1.length ≤ 17592186044416) (K0 : Nat) (h0 : ∀ k, K0 ≤ k → inclinelaw21_same.l0 k l l ((i + 1 : Nat) : Int) = some true) :
    ∀ (d j : Nat), l[i].f1.length = j + d → ∀ k, K0 + d + 1 ≤ k → inclinelaw21_same.l1 k l l (i : Int) (j : Int) = some true := by
  have hni := hn _ (List.getElem_mem hi)
  intro d
  induction d with
  | zero =>
    intro j h1 k hk
    obtain ⟨k, rfl⟩ : ∃ m, k = m + 1 := ⟨k - 1, by omega⟩
    simp only [inclinelaw21_same.l1]
    rw [if_pos (by omega), if_pos (by omega), rdT_get _ _ hi, if_neg (by omega), w64 (by omega) (by omega)]
    exact h0 k (by omega)
  | succ d ih =>
    intro j h1 k hk
    obtain ⟨k, rfl⟩ : ∃ m, k = m + 1 := ⟨k - 1, by omega⟩
    have hj : j < l[i].f1.length := by omega
    simp only [inclinelaw21_same.l1]
    rw [if_pos (by omega), if_pos (by omega), rdT_get _ _ hi, if_pos (by omega), if_pos (by omega), if_pos (by omega), if_pos (by omega), if_pos trivial, w64 (by omega) (by omega)]
    exact ih (j + 1) (by omega) k (by omega)
theorem same_l0 (l : List S30) (hl : l.length ≤ 17592186044416) (hn : ∀ c ∈ l, c.f1.length ≤ 17592186044416) : ∀ (m i : Nat), l.length = i + m → ∃ K, ∀ k, K ≤ k → inclinelaw21_same.l0 k l l (i : Int) = some true := by
  intro m
  induction m with
  | zero =>
    intro i h1
    refine ⟨1, fun k hk => ?_⟩
    obtain ⟨k, rfl⟩ : ∃ m, k = m + 1 := ⟨k - 1, by omega⟩
    simp only [inclinelaw21_same.l0]
    rw [if_neg (by omega)]
  | succ m ih =>
    intro i h1
    have hi : i < l.length := by omega
    obtain ⟨K0, h0⟩ := ih (i + 1) (by omega)
    have hl1 := same_l1 l hl i hi hn K0 h0 l[i].f1.length 0 (by omega)
    refine ⟨K0 + l[i].f1.length + 3, fun k hk => ?_⟩
    obtain ⟨k, rfl⟩ : ∃ m, k = m + 2 := ⟨k - 2, by omega⟩
    simp only [inclinelaw21_same.l0, inclinelaw21_same.j1]
    rw [if_pos (by omega), if_pos (by omega), if_pos (by omega), if_pos trivial, if_neg (by simp)]
    exact hl1 k (by omega)
/-- Commands are the same as themselves. -/
theorem same_self (l : List S30) (hl : l.length ≤ 17592186044416) (hn : ∀ c ∈ l, c.f1.length ≤ 17592186044416) : ∃ K, ∀ k, K ≤ k → inclinelaw21_same.f k l l = some true := by
  obtain ⟨K, h⟩ := same_l0 l hl hn l.length 0 (by omega)
  refine ⟨K, fun k hk => ?_⟩
  unfold inclinelaw21_same.f
  rw [if_pos rfl]
  exact h k hk
end Go.Proofs.YtlfoaaeelcmhiaaDoor.Pure
end

section
-- Written by a program of this session (wip/gprint.py: the kit's print, with contracts proved by hand)
namespace Go.Proofs.YtlfoaaeelcmhiaaDoor.G
open Go.RowKit Go.Proofs.YtlfoaaeelcmhiaaDoorW.PrintWords Go.Proofs.YtlfoaaeelcmhiaaDoorW.PrintLast Go.Proofs.YtlfoaaeelcmhiaaDoorW.PrintMore
attribute [local go_sem] max2_int min2_int max_two min_two max_three min_three max_four min_four   -- for this text's walks alone
set_option linter.unusedVariables false
set_option linter.unusedSimpArgs false

/-! ### script_line: function 33 -/
def script_line.l0 : Nat → List Int → List Int → Int → Int → Option (ByteArray)
  | 0, _, _, _, _ => none
  | k + 1, x3, x6, x7, x8 => if x8 < x7 then (if 0 ≤ x8 then (if x8 < (x6.length : Int) then (if x8 > 0 then (if x3.length < 140737488355328 then ((strconv_AppendUint.f (x3 ++ [32]) (rd x6 x8) 10).bind fun t152 => (script_line.l0 k t152 x6 x7 (wrap64 (x8 + 1)))) else (none)) else ((strconv_AppendUint.f x3 (rd x6 x8) 10).bind fun t155 => (script_line.l0 k t155 x6 x7 (wrap64 (x8 + 1))))) else (none)) else (none)) else (some (strOfNums x3))
def script_line.f (k : Nat) (l0 : List Int) : Option (ByteArray) := script_line.l0 k ([] : List Int) l0 (l0.length : Int) 0
theorem script_line.mono_l : ∀ k, (∀ y0 y1 y2 y3, LeO (script_line.l0 k y0 y1 y2 y3) (script_line.l0 (k + 1) y0 y1 y2 y3))
  | 0 => fun _ _ _ _ r h => by simp [script_line.l0] at h
  | k + 1 => by
    have ih0 := script_line.mono_l k
    · intro y0 y1 y2 y3
      unfold script_line.l0
      repeat' first
      | (with_reducible exact ih0 _ _ _ _)
      | (with_reducible exact LeO.refl _)
      | (with_reducible exact LeO.none _)
      | (with_reducible refine LeO.ite ?_ ?_)
      | (with_reducible refine LeO.bind ?_ (fun _ => ?_))
      | exact ih0 _ _ _ _
      | exact LeO.none _
      | refine LeO.ite ?_ ?_
      | refine LeO.bind ?_ (fun _ => ?_)
theorem script_line.mono : ∀ a0 k, LeO (script_line.f k a0) (script_line.f (k + 1) a0) := by
  intro a0 k
  have ih0 := script_line.mono_l k
  unfold script_line.f
  repeat' first
      | (with_reducible exact ih0 _ _ _ _)
      | (with_reducible exact LeO.refl _)
      | (with_reducible exact LeO.none _)
      | (with_reducible refine LeO.ite ?_ ?_)
      | (with_reducible refine LeO.bind ?_ (fun _ => ?_))
      | exact ih0 _ _ _ _
      | exact LeO.none _
      | refine LeO.ite ?_ ?_
      | refine LeO.bind ?_ (fun _ => ?_)
set_option maxHeartbeats 8000000 in
set_option maxRecDepth 100000 in
theorem script_line.calls (k : Nat) (A0 : Option Addr) (c0 : Nat) (l0 : List Int) (r : ByteArray) (w : World) (hr0 : Kd.C (Kd.int .u64) w A0 l0.length l0) (hc0 : l0.length ≤ c0) (hT : Tabs w) (h : script_line.f k l0 = some r) :
    Calls Tryd.prog 33 #[.slice A0 l0.length c0] w fun e w' => e = .returned (.string r) ∧ Below w.heap.size w w' := by
  have HT := Aside0.mk hT
  clear hT
  have HR0 := Aside0.mk hr0
  have HC0 := Aside0.mk hc0
  clear hr0 hc0
  have HB := Aside0.mk (Below.refl w.heap.size w)
  have H : (script_line.l0 k ([] : List Int) l0 (l0.length : Int) 0) = some r := h
  clear h
  have H' := Aside0.mk H
  clear H
  go_enter Tryd.func33, Tryd.ntmps33
  go_wp2
  go_loopg [3, 8] k (fun kq v3 v8 w' => ∃ (x3_1 : List Int) (x8_1 : Int), v8 = .int .i64 x8_1 ∧ Aside0 (script_line.l0 kq x3_1 l0 (l0.length : Int) x8_1 = some r) ∧ Aside0 (kq ≤ k) ∧ Aside0 (Kd.R (Kd.int .u8) 5 w' w.heap.size (fun _ => True) v3 x3_1) ∧ Aside0 (Below w.heap.size w w'))
  case atStart => exact ⟨(([] : List Int)), (0), (by first | rfl | (simp; done) | (simp [*]; done)), H', ⟨Nat.le_refl _⟩, ⟨by first | exact Kd.R_nil _ _ _ _ _ | exact Kd.N_nil _ _ _ _ _ | exact Kd.V_nil _ _ _ _ _ | exact Kd.Q_nil _ _ _ _ _ | exact Kd.S_nil _ _ _ _ _⟩, ⟨by repeat (first | (with_reducible first | exact HB.out | apply below_alloc | apply pw_below_drewN | apply below_drew1) | exact HB.out)⟩⟩
  case round =>
    clear H'
    obtain ⟨x3_1, x8_1, rfl, HA, HK1, HO_3, HB⟩ := hrel
    cases gk with
    | zero => exact absurd HA.out (by simp [script_line.l0])
    | succ k1 =>
      have H := HA.out
      clear HA
      simp only [script_line.l0] at H
      by_cases c2 : x8_1 < (l0.length : Int)
      · rw [if_pos c2] at H
        have c2b0 : decide (x8_1 < (l0.length : Int)) = true := decide_eq_true c2
        clear c2
        by_cases c3 : 0 ≤ x8_1
        · rw [if_pos c3] at H
          have c3b0 : decide (0 ≤ x8_1) = true := decide_eq_true c3
          clear c3
          by_cases c4 : x8_1 < (l0.length : Int)
          · rw [if_pos c4] at H
            have c4b0 : decide (x8_1 < (l0.length : Int)) = true := decide_eq_true c4
            clear c4
            by_cases c5 : x8_1 > 0
            · rw [if_pos c5] at H
              have c5b0 : decide (0 < x8_1) = true := decide_eq_true c5
              clear c5
              by_cases c6 : x3_1.length < 140737488355328
              · rw [if_pos c6] at H
                have LMc6 := Aside0.mk c6
                clear c6
                obtain ⟨y149, hy149⟩ : ∃ y_ : List Int, y_ = (x3_1 ++ [32]) := ⟨_, rfl⟩
                replace H : ((strconv_AppendUint.f y149 (rd l0 x8_1) 10).bind fun t152 => (script_line.l0 k1 t152 l0 (l0.length : Int) (wrap64 (x8_1 + 1)))) = some r := by first | (rw [hy149]; with_reducible exact H) | (have H2_ := (Option.bind_some _ _).symm.trans H; rw [hy149]; with_reducible exact H2_) | (have H2_ := (Option.bind_some _ _).symm.trans H; with_reducible exact H2_) | with_reducible exact H | (rw [hy149]; exact H) | exact H
                have Ny149 := Aside0.mk hy149
                clear hy149
                replace H := Option.bind_eq_some_iff.mp H
                obtain ⟨t152, A70, H⟩ := H
                replace H : (script_line.l0 k1 t152 l0 (l0.length : Int) (wrap64 (x8_1 + 1))) = some r := H
                have A7 := Aside0.mk A70
                clear A70
                have H' := Aside0.mk H
                clear H
                have p148 : 0 ≤ (x8_1 : Int) := of_decide_eq_true (by first | (with_reducible assumption) | assumption)
                have q148 : x8_1 < (l0.length : Int) := of_decide_eq_true (by first | (with_reducible assumption) | assumption)
                obtain ⟨ad148, e148, hx148_0⟩ := Kd.at_int HR0.out x8_1 p148 q148
                cases e148
                replace hx148_0 := (HB.out.cell (World.block_lt_of_cell? w _ hx148_0)).trans hx148_0
                replace p148 := eq_true p148
                replace q148 := eq_true q148
                go_wp2_with (first | ((with_reducible refine gate_builtin (b := .append) (xs := #[.tmp 15, .tmp 16]) rfl ?_); at_builtin; refine Kd.R_append (Kd.int .u8) (w0 := w) w.heap.size rfl (.tmp 15) (.tmp 16) 47 5 (.int .u8 0) 1 rfl Tryd.underlying47 info5 rfl (by decide) (by omega) u3 x3_1 32 [.int .u8 32] (fun _ => True) (fun _ => False) rfl rfl ?aP (fun _ hk => hk.elim) ?aF ?aO ?aB ?aS ?aL ?_; (case aP => exact rfl); (case aB => exact (by repeat (first | (with_reducible first | exact HB.out | apply below_alloc | apply pw_below_drewN | apply below_drew1) | exact HB.out))); (case aF => exact (fun _ _ => trivial)); (case aO => exact (by (with_reducible repeat (first | apply Kd.R_alloc | apply Kd.R_drewN | apply Kd.R_drew)); exact HO_3.out)); (case aS => exact (below_size (by repeat (first | (with_reducible first | exact HB.out | apply below_alloc | apply pw_below_drewN | apply below_drew1) | exact HB.out)))); (case aL => have := LMc6.out; omega); intro v150 w8 ho hb hg hat; rw [← Ny149.out] at ho; have n0_ := Aside0.mk (hb); have n1_ := Aside0.mk (ho); clear HB; clear HO_3; have HB := n0_; have HO151 := n1_; clear n0_ n1_; clear ho hb hg hat; obtain ⟨Ao9, co9, eo9⟩ := Kd.R_slice HO151.out; subst eo9) | ((with_reducible refine gate_callee (f := 28) rfl ?_); refine goesL_ (some 20) rfl rfl Tryd.func28 (by kernel_rfl) rfl #[.slice Ao9 y149.length co9, .int .u64 (rd l0 x8_1), .int .i64 10] rfl (by (try simp only [List.map_toArray, List.map_cons, List.map_nil]); first | done | rfl | (simp only [List.length_drop, List.length_take]; rfl)) ?_; (with_reducible refine (strconv_AppendUint.calls (fun k_ => some k_ = (.slice Ao9 y149.length co9 : Value).ownBlock) (.slice Ao9 y149.length co9) y149 (rd l0 x8_1) 10 t152 w _ ?side1 ?side2 HT.out A7.out).mono ?_); (case side1 => repeat (first | (with_reducible first | exact HB.out | apply below_alloc | apply pw_below_drewN | apply below_drew1) | exact HB.out)); (case side2 => exact Kd.R_tight rfl HO151.out); rintro e w10 ⟨v153, rfl, ho0, hb, hkp⟩; refine ⟨_, rfl, ?_⟩; have n0_ := Aside0.mk (Kd.R_mono (ok' := fun k_ => True) ho0 (fun k_ hk_ => trivial)); have n1_ := Aside0.mk (hb); clear HB; clear HO151; have HO154 := n0_; have HB := n1_; clear n0_ n1_; (try clear hb); (try clear hkp); (try clear ho0)))
                go_roundg k1
                case measure => have := HK1.out; omega
                case rel => exact ⟨(t152), (wrap64 (x8_1 + 1)), (by first | rfl | (simp; done) | (simp [*]; done)), H', ⟨by have := HK1.out; omega⟩, ⟨by (with_reducible repeat (first | apply Kd.R_alloc | apply Kd.R_drewN | apply Kd.R_drew)); exact HO154.out⟩, ⟨by repeat (first | (with_reducible first | exact HB.out | apply below_alloc | apply pw_below_drewN | apply below_drew1) | exact HB.out)⟩⟩
              · rw [if_neg c6] at H
                exact absurd H (by simp)
            · rw [if_neg c5] at H
              have c5b0 : decide (0 < x8_1) = false := decide_eq_false c5
              clear c5
              replace H := Option.bind_eq_some_iff.mp H
              obtain ⟨t155, A110, H⟩ := H
              replace H : (script_line.l0 k1 t155 l0 (l0.length : Int) (wrap64 (x8_1 + 1))) = some r := H
              have A11 := Aside0.mk A110
              clear A110
              have H' := Aside0.mk H
              clear H
              have p148 : 0 ≤ (x8_1 : Int) := of_decide_eq_true (by first | (with_reducible assumption) | assumption)
              have q148 : x8_1 < (l0.length : Int) := of_decide_eq_true (by first | (with_reducible assumption) | assumption)
              obtain ⟨ad148, e148, hx148_0⟩ := Kd.at_int HR0.out x8_1 p148 q148
              cases e148
              replace hx148_0 := (HB.out.cell (World.block_lt_of_cell? w _ hx148_0)).trans hx148_0
              replace p148 := eq_true p148
              replace q148 := eq_true q148
              obtain ⟨Ao12, co12, eo12⟩ := Kd.R_slice HO_3.out
              subst eo12
              go_wp2_with (first | ((with_reducible refine gate_callee (f := 28) rfl ?_); refine goesL_ (some 20) rfl rfl Tryd.func28 (by kernel_rfl) rfl #[.slice Ao12 x3_1.length co12, .int .u64 (rd l0 x8_1), .int .i64 10] rfl (by (try simp only [List.map_toArray, List.map_cons, List.map_nil]); first | done | rfl | (simp only [List.length_drop, List.length_take]; rfl)) ?_; (with_reducible refine (strconv_AppendUint.calls (fun k_ => some k_ = (.slice Ao12 x3_1.length co12 : Value).ownBlock) (.slice Ao12 x3_1.length co12) x3_1 (rd l0 x8_1) 10 t155 w _ ?side1 ?side2 HT.out A11.out).mono ?_); (case side1 => repeat (first | (with_reducible first | exact HB.out | apply below_alloc | apply pw_below_drewN | apply below_drew1) | exact HB.out)); (case side2 => exact Kd.R_tight rfl HO_3.out); rintro e w13 ⟨v156, rfl, ho0, hb, hkp⟩; refine ⟨_, rfl, ?_⟩; have n0_ := Aside0.mk (Kd.R_mono (ok' := fun k_ => True) ho0 (fun k_ hk_ => trivial)); have n1_ := Aside0.mk (hb); clear HB; clear HO_3; have HO157 := n0_; have HB := n1_; clear n0_ n1_; (try clear hb); (try clear hkp); (try clear ho0)))
              go_roundg k1
              case measure => have := HK1.out; omega
              case rel => exact ⟨(t155), (wrap64 (x8_1 + 1)), (by first | rfl | (simp; done) | (simp [*]; done)), H', ⟨by have := HK1.out; omega⟩, ⟨by (with_reducible repeat (first | apply Kd.R_alloc | apply Kd.R_drewN | apply Kd.R_drew)); exact HO157.out⟩, ⟨by repeat (first | (with_reducible first | exact HB.out | apply below_alloc | apply pw_below_drewN | apply below_drew1) | exact HB.out)⟩⟩
          · rw [if_neg c4] at H
            exact absurd H (by simp)
        · rw [if_neg c3] at H
          exact absurd H (by simp)
      · rw [if_neg c2] at H
        have c2b0 : decide (x8_1 < (l0.length : Int)) = false := decide_eq_false c2
        clear c2
        obtain rfl := Option.some.inj H
        have hcv14 := own_string (P := Tryd.prog) Tryd.underlying47 Tryd.underlying5 Tryd.underlying9 (Kd.own_of_R HO_3.out)
        go_wp2
        go_ret
        exact ⟨by first | rfl | (simp [errW_none, errW_some] <;> rfl) | (simp [*, errW_none, errW_some] <;> rfl), by repeat (first | (with_reducible first | exact HB.out | apply below_alloc | apply pw_below_drewN | apply below_drew1) | exact HB.out)⟩

end Go.Proofs.YtlfoaaeelcmhiaaDoor.G
end
