/- Some of the claim's own texts, in one file: Gx16, PlainC, PlainD, PlainE, Gx8, Mark, PairsG, PlainF, Gx6, PlainG, Gx12, Gx13, PlainH, Gx27. Conditions: each theorem's own. -/
import Derived.Test.YtlfoaaeelcmhiaaDoorZTells1
import Derived.Lib.Bytes
import Derived.Lib.ConvBytes
import Derived.Lib.FrozenHead2
import Derived.Lib.ItoaLen
section
-- Written by a program of this session (wip/gprint.py: the kit's print, with contracts proved by hand)
namespace Go.Proofs.YtlfoaaeelcmhiaaDoor.G
open Go.RowKit Go.Proofs.YtlfoaaeelcmhiaaDoorW.PrintWords Go.Proofs.YtlfoaaeelcmhiaaDoorW.PrintLast Go.Proofs.YtlfoaaeelcmhiaaDoorW.PrintMore
attribute [local go_sem] max2_int min2_int max_two min_two max_three min_three max_four min_four   -- for this text's walks alone
set_option linter.unusedVariables false
set_option linter.unusedSimpArgs false

/-! ### inclineref21_Takes: function 29 -/
mutual
def inclineref21_Takes.j0 : Nat → ByteArray → Bool → Option (Int)
  | 0, _, _ => none
  | k + 1, x3, x4 => if x4 = true then (some 0) else (if x3.toList = ([100, 101, 108] : List UInt8) then (inclineref21_Takes.j1 k x3 (x3.toList == ([100, 101, 108] : List UInt8))) else (if x3.toList = ([103, 101, 116] : List UInt8) then (inclineref21_Takes.j1 k x3 (x3.toList == ([103, 101, 116] : List UInt8))) else (if x3.toList = ([102, 108, 111, 111, 114] : List UInt8) then (inclineref21_Takes.j1 k x3 (x3.toList == ([102, 108, 111, 111, 114] : List UInt8))) else (if x3.toList = ([99, 101, 105, 108] : List UInt8) then (inclineref21_Takes.j1 k x3 (x3.toList == ([99, 101, 105, 108] : List UInt8))) else (inclineref21_Takes.j1 k x3 (x3.toList == ([114, 97, 110, 107] : List UInt8)))))))
def inclineref21_Takes.j1 : Nat → ByteArray → Bool → Option (Int)
  | 0, _, _ => none
  | k + 1, x3, x8 => if x8 = true then (some 1) else (if x3.toList = ([112, 117, 116] : List UInt8) then (inclineref21_Takes.j2 k x3 (x3.toList == ([112, 117, 116] : List UInt8))) else (if x3.toList = ([114, 97, 110, 103, 101] : List UInt8) then (inclineref21_Takes.j2 k x3 (x3.toList == ([114, 97, 110, 103, 101] : List UInt8))) else (inclineref21_Takes.j2 k x3 (x3.toList == ([112, 97, 116, 104] : List UInt8)))))
def inclineref21_Takes.j2 : Nat → ByteArray → Bool → Option (Int)
  | 0, _, _ => none
  | k + 1, x3, x14 => if x14 = true then (some 2) else (if x3.toList = ([109, 97, 112] : List UInt8) then (some 3) else (some (-1)))
end
def inclineref21_Takes.f (k : Nat) (a0 : ByteArray) : Option (Int) := if a0.toList = ([115, 116, 97, 116, 115] : List UInt8) then (inclineref21_Takes.j0 k a0 (a0.toList == ([115, 116, 97, 116, 115] : List UInt8))) else (if a0.toList = ([115, 97, 118, 101] : List UInt8) then (inclineref21_Takes.j0 k a0 (a0.toList == ([115, 97, 118, 101] : List UInt8))) else (inclineref21_Takes.j0 k a0 (a0.toList == ([108, 111, 97, 100] : List UInt8))))
theorem inclineref21_Takes.mono_l : ∀ k, (∀ y0 y1, LeO (inclineref21_Takes.j0 k y0 y1) (inclineref21_Takes.j0 (k + 1) y0 y1)) ∧ (∀ y0 y1, LeO (inclineref21_Takes.j1 k y0 y1) (inclineref21_Takes.j1 (k + 1) y0 y1)) ∧ (∀ y0 y1, LeO (inclineref21_Takes.j2 k y0 y1) (inclineref21_Takes.j2 (k + 1) y0 y1))
  | 0 => ⟨fun _ _ r h => by simp [inclineref21_Takes.j0] at h, fun _ _ r h => by simp [inclineref21_Takes.j1] at h, fun _ _ r h => by simp [inclineref21_Takes.j2] at h⟩
  | k + 1 => by
    obtain ⟨ih0, ih1, ih2⟩ := inclineref21_Takes.mono_l k
    refine ⟨?_, ?_, ?_⟩
    · intro y0 y1
      unfold inclineref21_Takes.j0
      repeat' first
      | (with_reducible exact ih0 _ _)
      | (with_reducible exact ih1 _ _)
      | (with_reducible exact ih2 _ _)
      | (with_reducible exact LeO.refl _)
      | (with_reducible exact LeO.none _)
      | (with_reducible refine LeO.ite ?_ ?_)
      | (with_reducible refine LeO.bind ?_ (fun _ => ?_))
      | exact ih0 _ _
      | exact ih1 _ _
      | exact ih2 _ _
      | exact LeO.none _
      | refine LeO.ite ?_ ?_
      | refine LeO.bind ?_ (fun _ => ?_)
    · intro y0 y1
      unfold inclineref21_Takes.j1
      repeat' first
      | (with_reducible exact ih0 _ _)
      | (with_reducible exact ih1 _ _)
      | (with_reducible exact ih2 _ _)
      | (with_reducible exact LeO.refl _)
      | (with_reducible exact LeO.none _)
      | (with_reducible refine LeO.ite ?_ ?_)
      | (with_reducible refine LeO.bind ?_ (fun _ => ?_))
      | exact ih0 _ _
      | exact ih1 _ _
      | exact ih2 _ _
      | exact LeO.none _
      | refine LeO.ite ?_ ?_
      | refine LeO.bind ?_ (fun _ => ?_)
    · intro y0 y1
      unfold inclineref21_Takes.j2
      repeat' first
      | (with_reducible exact ih0 _ _)
      | (with_reducible exact ih1 _ _)
      | (with_reducible exact ih2 _ _)
      | (with_reducible exact LeO.refl _)
      | (with_reducible exact LeO.none _)
      | (with_reducible refine LeO.ite ?_ ?_)
      | (with_reducible refine LeO.bind ?_ (fun _ => ?_))
      | exact ih0 _ _
      | exact ih1 _ _
      | exact ih2 _ _
      | exact LeO.none _
      | refine LeO.ite ?_ ?_
      | refine LeO.bind ?_ (fun _ => ?_)
theorem inclineref21_Takes.mono : ∀ a0 k, LeO (inclineref21_Takes.f k a0) (inclineref21_Takes.f (k + 1) a0) := by
  intro a0 k
  obtain ⟨ih0, ih1, ih2⟩ := inclineref21_Takes.mono_l k
  unfold inclineref21_Takes.f
  repeat' first
      | (with_reducible exact ih0 _ _)
      | (with_reducible exact ih1 _ _)
      | (with_reducible exact ih2 _ _)
      | (with_reducible exact LeO.refl _)
      | (with_reducible exact LeO.none _)
      | (with_reducible refine LeO.ite ?_ ?_)
      | (with_reducible refine LeO.bind ?_ (fun _ => ?_))
      | exact ih0 _ _
      | exact ih1 _ _
      | exact ih2 _ _
      | exact LeO.none _
      | refine LeO.ite ?_ ?_
      | refine LeO.bind ?_ (fun _ => ?_)
set_option maxHeartbeats 8000000 in
set_option maxRecDepth 100000 in
theorem inclineref21_Takes.calls (k : Nat) (a0 : ByteArray) (r : Int) (w : World) (h : inclineref21_Takes.f k a0 = some r) :
    Calls Tryd.prog 29 #[.string a0] w fun e w' => e = .returned (.int .i64 r) ∧ Drawn0 w w' := by
  have H : (if a0.toList = ([115, 116, 97, 116, 115] : List UInt8) then (inclineref21_Takes.j0 k a0 (a0.toList == ([115, 116, 97, 116, 115] : List UInt8))) else (if a0.toList = ([115, 97, 118, 101] : List UInt8) then (inclineref21_Takes.j0 k a0 (a0.toList == ([115, 97, 118, 101] : List UInt8))) else (inclineref21_Takes.j0 k a0 (a0.toList == ([108, 111, 97, 100] : List UInt8))))) = some r := h
  clear h
  have HC2 := Aside0.mk H
  clear H
  go_enter Tryd.func29, Tryd.ntmps29
  go_upto_if 4 with (fail)
  go_cut [4] (fun v4 wc => ∃ (kq : Nat) (x4_1 : Bool), v4 = .bool x4_1 ∧ Aside0 (inclineref21_Takes.j0 kq a0 x4_1 = some r) ∧ Aside0 (kq ≤ k) ∧ Drawn0 w wc)
  case first =>
    have H := HC2.out
    clear HC2
    by_cases c3 : a0.toList = ([115, 116, 97, 116, 115] : List UInt8)
    · rw [if_pos c3] at H
      have c3b0 : (a0.toList == ([115, 116, 97, 116, 115] : List UInt8)) = true := beq_iff_eq.mpr c3
      have c3b1 : (a0.toList != ([115, 116, 97, 116, 115] : List UInt8)) = false := bne_eq_false_iff_eq.mpr c3
      clear c3
      (first | rw [c3b0] | (simp only [i64_w, i32_w]; rw [c3b0]) | skip)
      have H' := Aside0.mk H
      clear H
      go_wp2
      go_meet
      case rel => exact ⟨_, ((a0.toList == ([115, 116, 97, 116, 115] : List UInt8))), (by first | rfl | (simp; done) | (simp [*]; done)), H', ⟨by first | omega | exact Nat.le_refl _⟩, by repeat (first | exact Drawn0.refl _ | apply Drawn0.step)⟩
    · rw [if_neg c3] at H
      have c3b0 : (a0.toList == ([115, 116, 97, 116, 115] : List UInt8)) = false := beq_eq_false_iff_ne.mpr c3
      have c3b1 : (a0.toList != ([115, 116, 97, 116, 115] : List UInt8)) = true := bne_iff_ne.mpr c3
      (first | rw [c3b0] | (simp only [i64_w, i32_w]; rw [c3b0]) | skip)
      by_cases c4 : a0.toList = ([115, 97, 118, 101] : List UInt8)
      · rw [if_pos c4] at H
        have c4b0 : (a0.toList == ([115, 97, 118, 101] : List UInt8)) = true := beq_iff_eq.mpr c4
        have c4b1 : (a0.toList != ([115, 97, 118, 101] : List UInt8)) = false := bne_eq_false_iff_eq.mpr c4
        clear c4
        have H' := Aside0.mk H
        clear H
        go_wp2
        go_meet
        case rel => exact ⟨_, ((a0.toList == ([115, 97, 118, 101] : List UInt8))), (by first | rfl | (simp; done) | (simp [*]; done)), H', ⟨by first | omega | exact Nat.le_refl _⟩, by repeat (first | exact Drawn0.refl _ | apply Drawn0.step)⟩
      · rw [if_neg c4] at H
        have c4b0 : (a0.toList == ([115, 97, 118, 101] : List UInt8)) = false := beq_eq_false_iff_ne.mpr c4
        have c4b1 : (a0.toList != ([115, 97, 118, 101] : List UInt8)) = true := bne_iff_ne.mpr c4
        have H' := Aside0.mk H
        clear H
        go_wp2
        go_meet
        case rel => exact ⟨_, ((a0.toList == ([108, 111, 97, 100] : List UInt8))), (by first | rfl | (simp; done) | (simp [*]; done)), H', ⟨by first | omega | exact Nat.le_refl _⟩, by repeat (first | exact Drawn0.refl _ | apply Drawn0.step)⟩
  case rest =>
    clear HC2
    try clear c2
    try clear p2
    try clear c3
    try clear c3b0
    try clear c3b1
    try clear c4
    try clear c4b0
    try clear c4b1
    obtain ⟨kq, x4_1, rfl, HA, HJ1, ⟨mc1, rfl⟩⟩ := hcut
    cases kq with
    | zero => exact absurd HA.out (by simp [inclineref21_Takes.j0])
    | succ kj1 =>
      have H := HA.out
      clear HA
      simp only [inclineref21_Takes.j0] at H
      by_cases c5 : x4_1 = true
      · subst c5
        have H1 : (some 0) = some r := by rw [if_pos rfl] at H; exact H
        clear H
        have H := H1
        clear H1
        obtain rfl := Option.some.inj H
        go_wp2
        go_ret
        exact ⟨by first | rfl | (simp; done) | (simp [*]; done), by repeat (first | exact Drawn0.refl _ | apply Drawn0.step)⟩
      · replace c5 := Bool.eq_false_iff.mpr c5
        subst c5
        have H1 : (if a0.toList = ([100, 101, 108] : List UInt8) then (inclineref21_Takes.j1 kj1 a0 (a0.toList == ([100, 101, 108] : List UInt8))) else (if a0.toList = ([103, 101, 116] : List UInt8) then (inclineref21_Takes.j1 kj1 a0 (a0.toList == ([103, 101, 116] : List UInt8))) else (if a0.toList = ([102, 108, 111, 111, 114] : List UInt8) then (inclineref21_Takes.j1 kj1 a0 (a0.toList == ([102, 108, 111, 111, 114] : List UInt8))) else (if a0.toList = ([99, 101, 105, 108] : List UInt8) then (inclineref21_Takes.j1 kj1 a0 (a0.toList == ([99, 101, 105, 108] : List UInt8))) else (inclineref21_Takes.j1 kj1 a0 (a0.toList == ([114, 97, 110, 107] : List UInt8))))))) = some r := by rw [if_neg (show ¬ (false = true) by decide)] at H; exact H
        clear H
        have H := H1
        clear H1
        have HC6 := Aside0.mk H
        clear H
        go_upto_if 8 with (fail)
        go_cut [8] (fun v8 wc => ∃ (kq : Nat) (x8_5 : Bool), v8 = .bool x8_5 ∧ Aside0 (inclineref21_Takes.j1 kq a0 x8_5 = some r) ∧ Aside0 (kq ≤ kj1) ∧ Drawn0 w wc)
        case first =>
          have H := HC6.out
          clear HC6
          by_cases c7 : a0.toList = ([100, 101, 108] : List UInt8)
          · rw [if_pos c7] at H
            have c7b0 : (a0.toList == ([100, 101, 108] : List UInt8)) = true := beq_iff_eq.mpr c7
            have c7b1 : (a0.toList != ([100, 101, 108] : List UInt8)) = false := bne_eq_false_iff_eq.mpr c7
            clear c7
            (first | rw [c7b0] | (simp only [i64_w, i32_w]; rw [c7b0]) | skip)
            have H' := Aside0.mk H
            clear H
            go_wp2
            go_meet
            case rel => exact ⟨_, ((a0.toList == ([100, 101, 108] : List UInt8))), (by first | rfl | (simp; done) | (simp [*]; done)), H', ⟨by have := HJ1.out; first | omega | exact Nat.le_refl _⟩, by repeat (first | exact Drawn0.refl _ | apply Drawn0.step)⟩
          · rw [if_neg c7] at H
            have c7b0 : (a0.toList == ([100, 101, 108] : List UInt8)) = false := beq_eq_false_iff_ne.mpr c7
            have c7b1 : (a0.toList != ([100, 101, 108] : List UInt8)) = true := bne_iff_ne.mpr c7
            (first | rw [c7b0] | (simp only [i64_w, i32_w]; rw [c7b0]) | skip)
            by_cases c8 : a0.toList = ([103, 101, 116] : List UInt8)
            · rw [if_pos c8] at H
              have c8b0 : (a0.toList == ([103, 101, 116] : List UInt8)) = true := beq_iff_eq.mpr c8
              have c8b1 : (a0.toList != ([103, 101, 116] : List UInt8)) = false := bne_eq_false_iff_eq.mpr c8
              clear c8
              have H' := Aside0.mk H
              clear H
              go_wp2
              go_meet
              case rel => exact ⟨_, ((a0.toList == ([103, 101, 116] : List UInt8))), (by first | rfl | (simp; done) | (simp [*]; done)), H', ⟨by have := HJ1.out; first | omega | exact Nat.le_refl _⟩, by repeat (first | exact Drawn0.refl _ | apply Drawn0.step)⟩
            · rw [if_neg c8] at H
              have c8b0 : (a0.toList == ([103, 101, 116] : List UInt8)) = false := beq_eq_false_iff_ne.mpr c8
              have c8b1 : (a0.toList != ([103, 101, 116] : List UInt8)) = true := bne_iff_ne.mpr c8
              by_cases c9 : a0.toList = ([102, 108, 111, 111, 114] : List UInt8)
              · rw [if_pos c9] at H
                have c9b0 : (a0.toList == ([102, 108, 111, 111, 114] : List UInt8)) = true := beq_iff_eq.mpr c9
                have c9b1 : (a0.toList != ([102, 108, 111, 111, 114] : List UInt8)) = false := bne_eq_false_iff_eq.mpr c9
                clear c9
                have H' := Aside0.mk H
                clear H
                go_wp2
                go_meet
                case rel => exact ⟨_, ((a0.toList == ([102, 108, 111, 111, 114] : List UInt8))), (by first | rfl | (simp; done) | (simp [*]; done)), H', ⟨by have := HJ1.out; first | omega | exact Nat.le_refl _⟩, by repeat (first | exact Drawn0.refl _ | apply Drawn0.step)⟩
              · rw [if_neg c9] at H
                have c9b0 : (a0.toList == ([102, 108, 111, 111, 114] : List UInt8)) = false := beq_eq_false_iff_ne.mpr c9
                have c9b1 : (a0.toList != ([102, 108, 111, 111, 114] : List UInt8)) = true := bne_iff_ne.mpr c9
                by_cases c10 : a0.toList = ([99, 101, 105, 108] : List UInt8)
                · rw [if_pos c10] at H
                  have c10b0 : (a0.toList == ([99, 101, 105, 108] : List UInt8)) = true := beq_iff_eq.mpr c10
                  have c10b1 : (a0.toList != ([99, 101, 105, 108] : List UInt8)) = false := bne_eq_false_iff_eq.mpr c10
                  clear c10
                  have H' := Aside0.mk H
                  clear H
                  go_wp2
                  go_meet
                  case rel => exact ⟨_, ((a0.toList == ([99, 101, 105, 108] : List UInt8))), (by first | rfl | (simp; done) | (simp [*]; done)), H', ⟨by have := HJ1.out; first | omega | exact Nat.le_refl _⟩, by repeat (first | exact Drawn0.refl _ | apply Drawn0.step)⟩
                · rw [if_neg c10] at H
                  have c10b0 : (a0.toList == ([99, 101, 105, 108] : List UInt8)) = false := beq_eq_false_iff_ne.mpr c10
                  have c10b1 : (a0.toList != ([99, 101, 105, 108] : List UInt8)) = true := bne_iff_ne.mpr c10
                  have H' := Aside0.mk H
                  clear H
                  go_wp2
                  go_meet
                  case rel => exact ⟨_, ((a0.toList == ([114, 97, 110, 107] : List UInt8))), (by first | rfl | (simp; done) | (simp [*]; done)), H', ⟨by have := HJ1.out; first | omega | exact Nat.le_refl _⟩, by repeat (first | exact Drawn0.refl _ | apply Drawn0.step)⟩
        case rest =>
          clear HC6
          try clear c1
          try clear c2
          try clear p2
          try clear c3
          try clear c3b0
          try clear c3b1
          try clear c4
          try clear c4b0
          try clear c4b1
          try clear c5
          try clear c7
          try clear c7b0
          try clear c7b1
          try clear c8
          try clear c8b0
          try clear c8b1
          try clear c9
          try clear c9b0
          try clear c9b1
          try clear c10
          try clear c10b0
          try clear c10b1
          try clear p2
          obtain ⟨kq, x8_5, rfl, HA, HJ5, ⟨mc5, rfl⟩⟩ := hcut
          cases kq with
          | zero => exact absurd HA.out (by simp [inclineref21_Takes.j1])
          | succ kj5 =>
            have H := HA.out
            clear HA
            simp only [inclineref21_Takes.j1] at H
            by_cases c11 : x8_5 = true
            · subst c11
              have H1 : (some 1) = some r := by rw [if_pos rfl] at H; exact H
              clear H
              have H := H1
              clear H1
              obtain rfl := Option.some.inj H
              go_wp2
              go_ret
              exact ⟨by first | rfl | (simp; done) | (simp [*]; done), by repeat (first | exact Drawn0.refl _ | apply Drawn0.step)⟩
            · replace c11 := Bool.eq_false_iff.mpr c11
              subst c11
              have H1 : (if a0.toList = ([112, 117, 116] : List UInt8) then (inclineref21_Takes.j2 kj5 a0 (a0.toList == ([112, 117, 116] : List UInt8))) else (if a0.toList = ([114, 97, 110, 103, 101] : List UInt8) then (inclineref21_Takes.j2 kj5 a0 (a0.toList == ([114, 97, 110, 103, 101] : List UInt8))) else (inclineref21_Takes.j2 kj5 a0 (a0.toList == ([112, 97, 116, 104] : List UInt8))))) = some r := by rw [if_neg (show ¬ (false = true) by decide)] at H; exact H
              clear H
              have H := H1
              clear H1
              have HC12 := Aside0.mk H
              clear H
              go_upto_if 14 with (fail)
              go_cut [14] (fun v14 wc => ∃ (kq : Nat) (x14_11 : Bool), v14 = .bool x14_11 ∧ Aside0 (inclineref21_Takes.j2 kq a0 x14_11 = some r) ∧ Aside0 (kq ≤ kj5) ∧ Drawn0 w wc)
              case first =>
                have H := HC12.out
                clear HC12
                by_cases c13 : a0.toList = ([112, 117, 116] : List UInt8)
                · rw [if_pos c13] at H
                  have c13b0 : (a0.toList == ([112, 117, 116] : List UInt8)) = true := beq_iff_eq.mpr c13
                  have c13b1 : (a0.toList != ([112, 117, 116] : List UInt8)) = false := bne_eq_false_iff_eq.mpr c13
                  clear c13
                  (first | rw [c13b0] | (simp only [i64_w, i32_w]; rw [c13b0]) | skip)
                  have H' := Aside0.mk H
                  clear H
                  go_wp2
                  go_meet
                  case rel => exact ⟨_, ((a0.toList == ([112, 117, 116] : List UInt8))), (by first | rfl | (simp; done) | (simp [*]; done)), H', ⟨by have := HJ1.out; have := HJ5.out; first | omega | exact Nat.le_refl _⟩, by repeat (first | exact Drawn0.refl _ | apply Drawn0.step)⟩
                · rw [if_neg c13] at H
                  have c13b0 : (a0.toList == ([112, 117, 116] : List UInt8)) = false := beq_eq_false_iff_ne.mpr c13
                  have c13b1 : (a0.toList != ([112, 117, 116] : List UInt8)) = true := bne_iff_ne.mpr c13
                  (first | rw [c13b0] | (simp only [i64_w, i32_w]; rw [c13b0]) | skip)
                  by_cases c14 : a0.toList = ([114, 97, 110, 103, 101] : List UInt8)
                  · rw [if_pos c14] at H
                    have c14b0 : (a0.toList == ([114, 97, 110, 103, 101] : List UInt8)) = true := beq_iff_eq.mpr c14
                    have c14b1 : (a0.toList != ([114, 97, 110, 103, 101] : List UInt8)) = false := bne_eq_false_iff_eq.mpr c14
                    clear c14
                    have H' := Aside0.mk H
                    clear H
                    go_wp2
                    go_meet
                    case rel => exact ⟨_, ((a0.toList == ([114, 97, 110, 103, 101] : List UInt8))), (by first | rfl | (simp; done) | (simp [*]; done)), H', ⟨by have := HJ1.out; have := HJ5.out; first | omega | exact Nat.le_refl _⟩, by repeat (first | exact Drawn0.refl _ | apply Drawn0.step)⟩
                  · rw [if_neg c14] at H
                    have c14b0 : (a0.toList == ([114, 97, 110, 103, 101] : List UInt8)) = false := beq_eq_false_iff_ne.mpr c14
                    have c14b1 : (a0.toList != ([114, 97, 110, 103, 101] : List UInt8)) = true := bne_iff_ne.mpr c14
                    have H' := Aside0.mk H
                    clear H
                    go_wp2
                    go_meet
                    case rel => exact ⟨_, ((a0.toList == ([112, 97, 116, 104] : List UInt8))), (by first | rfl | (simp; done) | (simp [*]; done)), H', ⟨by have := HJ1.out; have := HJ5.out; first | omega | exact Nat.le_refl _⟩, by repeat (first | exact Drawn0.refl _ | apply Drawn0.step)⟩
              case rest =>
                clear HC12
                try clear c1
                try clear c2
                try clear p2
                try clear c3
                try clear c3b0
                try clear c3b1
                try clear c4
                try clear c4b0
                try clear c4b1
                try clear c5
                try clear c7
                try clear c7b0
                try clear c7b1
                try clear c8
                try clear c8b0
                try clear c8b1
                try clear c9
                try clear c9b0
                try clear c9b1
                try clear c10
                try clear c10b0
                try clear c10b1
                try clear c11
                try clear c13
                try clear c13b0
                try clear c13b1
                try clear c14
                try clear c14b0
                try clear c14b1
                try clear p2
                obtain ⟨kq, x14_11, rfl, HA, HJ11, ⟨mc11, rfl⟩⟩ := hcut
                cases kq with
                | zero => exact absurd HA.out (by simp [inclineref21_Takes.j2])
                | succ kj11 =>
                  have H := HA.out
                  clear HA
                  simp only [inclineref21_Takes.j2] at H
                  by_cases c15 : x14_11 = true
                  · subst c15
                    have H1 : (some 2) = some r := by rw [if_pos rfl] at H; exact H
                    clear H
                    have H := H1
                    clear H1
                    obtain rfl := Option.some.inj H
                    go_wp2
                    go_ret
                    exact ⟨by first | rfl | (simp; done) | (simp [*]; done), by repeat (first | exact Drawn0.refl _ | apply Drawn0.step)⟩
                  · replace c15 := Bool.eq_false_iff.mpr c15
                    subst c15
                    have H1 : (if a0.toList = ([109, 97, 112] : List UInt8) then (some 3) else (some (-1))) = some r := by rw [if_neg (show ¬ (false = true) by decide)] at H; exact H
                    clear H
                    have H := H1
                    clear H1
                    by_cases c16 : a0.toList = ([109, 97, 112] : List UInt8)
                    · rw [if_pos c16] at H
                      have c16b0 : (a0.toList == ([109, 97, 112] : List UInt8)) = true := beq_iff_eq.mpr c16
                      have c16b1 : (a0.toList != ([109, 97, 112] : List UInt8)) = false := bne_eq_false_iff_eq.mpr c16
                      clear c16
                      obtain rfl := Option.some.inj H
                      go_wp2
                      go_ret
                      exact ⟨by first | rfl | (simp; done) | (simp [*]; done), by repeat (first | exact Drawn0.refl _ | apply Drawn0.step)⟩
                    · rw [if_neg c16] at H
                      have c16b0 : (a0.toList == ([109, 97, 112] : List UInt8)) = false := beq_eq_false_iff_ne.mpr c16
                      have c16b1 : (a0.toList != ([109, 97, 112] : List UInt8)) = true := bne_iff_ne.mpr c16
                      obtain rfl := Option.some.inj H
                      go_wp2
                      go_ret
                      exact ⟨by first | rfl | (simp; done) | (simp [*]; done), by repeat (first | exact Drawn0.refl _ | apply Drawn0.step)⟩

end Go.Proofs.YtlfoaaeelcmhiaaDoor.G
end

section
/- Plain laws, on: how many numbers a word takes. -/
namespace Go.Proofs.YtlfoaaeelcmhiaaDoor.Pure
open Go.RowKit Go.Proofs.YtlfoaaeelcmhiaaDoor.G Go.Proofs.YtlfoaaeelcmhiaaDoorW.PrintWords
set_option linter.unusedVariables false
theorem toList_bl (s : ByteArray) : s.toList = bl s := Lib.toList_data s
/-- -1: no command's. -/
def takesL (w : Bytes) : Int :=
  if w = [109, 97, 112] then 3
  else if w = [112, 117, 116] ∨ w = [114, 97, 110, 103, 101] ∨ w = [112, 97, 116, 104] then 2
  else if w = [100, 101, 108] ∨ w = [103, 101, 116] ∨ w = [102, 108, 111, 111, 114] ∨ w = [99, 101, 105, 108] ∨ w = [114, 97, 110, 107] then 1
  else if w = [115, 116, 97, 116, 115] ∨ w = [115, 97, 118, 101] ∨ w = [108, 111, 97, 100] then 0
  else -1
theorem takesL_cases (P : Bytes → Prop) (l : Bytes) (h1 : P [109, 97, 112]) (h2 : P [112, 117, 116]) (h3 : P [114, 97, 110, 103, 101]) (h4 : P [112, 97, 116, 104]) (h5 : P [100, 101, 108]) (h6 : P [103, 101, 116]) (h7 : P [102, 108, 111, 111, 114]) (h8 : P [99, 101, 105, 108]) (h9 : P [114, 97, 110, 107]) (h10 : P [115, 116, 97, 116, 115]) (h11 : P [115, 97, 118, 101]) (h12 : P [108, 111, 97, 100])
    (h : l ≠ [109, 97, 112] → l ≠ [112, 117, 116] → l ≠ [114, 97, 110, 103, 101] → l ≠ [112, 97, 116, 104] → l ≠ [100, 101, 108] → l ≠ [103, 101, 116] → l ≠ [102, 108, 111, 111, 114] → l ≠ [99, 101, 105, 108] → l ≠ [114, 97, 110, 107] → l ≠ [115, 116, 97, 116, 115] → l ≠ [115, 97, 118, 101] → l ≠ [108, 111, 97, 100] → P l) : P l := by
  by_cases e1 : l = [109, 97, 112]; · rw [e1]; exact h1
  by_cases e2 : l = [112, 117, 116]; · rw [e2]; exact h2
  by_cases e3 : l = [114, 97, 110, 103, 101]; · rw [e3]; exact h3
  by_cases e4 : l = [112, 97, 116, 104]; · rw [e4]; exact h4
  by_cases e5 : l = [100, 101, 108]; · rw [e5]; exact h5
  by_cases e6 : l = [103, 101, 116]; · rw [e6]; exact h6
  by_cases e7 : l = [102, 108, 111, 111, 114]; · rw [e7]; exact h7
  by_cases e8 : l = [99, 101, 105, 108]; · rw [e8]; exact h8
  by_cases e9 : l = [114, 97, 110, 107]; · rw [e9]; exact h9
  by_cases e10 : l = [115, 116, 97, 116, 115]; · rw [e10]; exact h10
  by_cases e11 : l = [115, 97, 118, 101]; · rw [e11]; exact h11
  by_cases e12 : l = [108, 111, 97, 100]; · rw [e12]; exact h12
  exact h e1 e2 e3 e4 e5 e6 e7 e8 e9 e10 e11 e12
theorem takesL_range (l : Bytes) : -1 ≤ takesL l ∧ takesL l ≤ 3 := by
  unfold takesL
  repeat' split
  all_goals omega
theorem takesL_len (l : Bytes) (h : takesL l ≠ -1) : l.length ≤ 5 ∧ l ≠ [] ∧ (∀ x ∈ l, 97 ≤ x.toNat ∧ x.toNat ≤ 122) := by
  revert h
  refine takesL_cases (fun l => takesL l ≠ -1 → l.length ≤ 5 ∧ l ≠ [] ∧ (∀ x ∈ l, 97 ≤ x.toNat ∧ x.toNat ≤ 122)) l ?_ ?_ ?_ ?_ ?_ ?_ ?_ ?_ ?_ ?_ ?_ ?_ ?_ <;> try (intro _; decide)
  intro e1 e2 e3 e4 e5 e6 e7 e8 e9 e10 e11 e12 h
  exact absurd (by simp [takesL, e1, e2, e3, e4, e5, e6, e7, e8, e9, e10, e11, e12]) h
theorem takes_is (k : Nat) (hk : 3 ≤ k) (w : ByteArray) : script_takes.f k w = some (if takesL (bl w) = -1 then (0, false) else (takesL (bl w), true)) := by
  obtain ⟨k, rfl⟩ : ∃ m, k = m + 3 := ⟨k - 3, by omega⟩
  unfold script_takes.f
  simp only [script_takes.j0, script_takes.j1, toList_bl]
  generalize bl w = l
  induction l using takesL_cases
  case h e1 e2 e3 e4 e5 e6 e7 e8 e9 e10 e11 e12 => simp [takesL, e1, e2, e3, e4, e5, e6, e7, e8, e9, e10, e11, e12]
  all_goals rfl
theorem refTakes_is (k : Nat) (hk : 4 ≤ k) (w : ByteArray) : inclineref21_Takes.f k w = some (takesL (bl w)) := by
  obtain ⟨k, rfl⟩ : ∃ m, k = m + 4 := ⟨k - 4, by omega⟩
  unfold inclineref21_Takes.f
  simp only [inclineref21_Takes.j0, inclineref21_Takes.j1, inclineref21_Takes.j2, toList_bl]
  generalize bl w = l
  induction l using takesL_cases
  case h e1 e2 e3 e4 e5 e6 e7 e8 e9 e10 e11 e12 => simp [takesL, e1, e2, e3, e4, e5, e6, e7, e8, e9, e10, e11, e12]
  all_goals rfl
end Go.Proofs.YtlfoaaeelcmhiaaDoor.Pure
end

section
/- Plain laws, on: a line's command. -/
namespace Go.Proofs.YtlfoaaeelcmhiaaDoor.Pure
open Go.RowKit Go.Proofs.YtlfoaaeelcmhiaaDoor.G Go.Proofs.YtlfoaaeelcmhiaaDoorW.PrintWords
set_option linter.unusedVariables false
def goodNum (a : Bytes) : Bool := numeral a && decide (val a 0 ≤ 18446744073709551615)
def numOf (a : Bytes) : Int := (val a 0 : Int)
/-- What the words of a line come to. -/
def cmdSpec : List Bytes → Bytes × List Int × Int
  | [] => ([], [], 211)
  | w :: args => if takesL w = -1 then ([], [], 211) else if (args.length : Int) ≠ takesL w then ([], [], 213) else if args.all goodNum = true then (w, args.map numOf, 0) else ([], [], 212)
theorem w64 {i : Int} (h0 : -9223372036854775808 ≤ i) (h1 : i ≤ 9223372036854775807) : wrap64 i = i := by unfold wrap64; omega
theorem rdOf_get {α : Type} (d : α) (l : List α) (i : Nat) (h : i < l.length) : rdOf d l (i : Int) = l[i] := by
  unfold rdOf
  rw [Int.toNat_natCast, List.getD_eq_getElem?_getD, List.getElem?_eq_getElem h]
  rfl
theorem number_good (w : ByteArray) (h0 : 0 < w.size) (hs : w.size ≤ 4294967296) : script_number.f w = some (if goodNum (bl w) = true then (numOf (bl w), true) else (0, false)) := by
  rw [number_is w h0 hs]
  unfold goodNum numOf
  by_cases h : numeral (bl w) = true ∧ val (bl w) 0 ≤ 18446744073709551615
  · rw [if_pos h, if_pos (by rw [h.1, decide_eq_true h.2]; rfl)]
  · rw [if_neg h, if_neg]
    intro h2
    rw [Bool.and_eq_true, decide_eq_true_eq] at h2
    exact h h2
theorem command_loop (args : List ByteArray) (w : ByteArray) (hs : ∀ a ∈ args, 0 < a.size ∧ a.size ≤ 4294967296) (hn : args.length ≤ 1000) : ∀ (d i k : Nat) (acc : List Int), args.length = i + d → d < k → acc.length + d ≤ 1000 →
    script_command.l0 k args (args.length : Int) (i : Int) w acc = some (if ((args.drop i).map bl).all goodNum = true then (w, acc ++ ((args.drop i).map bl).map numOf, 0) else (⟨#[]⟩, [], 212)) := by
  intro d
  induction d with
  | zero =>
    intro i k acc h1 hk ha
    obtain ⟨k, rfl⟩ : ∃ m, k = m + 1 := ⟨k - 1, by omega⟩
    simp only [script_command.l0]
    rw [if_neg (by omega), List.drop_eq_nil_of_le (by omega)]
    simp
  | succ d ih =>
    intro i k acc h1 hk ha
    obtain ⟨k, rfl⟩ : ∃ m, k = m + 1 := ⟨k - 1, by omega⟩
    have hi : i < args.length := by omega
    have hm := hs args[i] (List.getElem_mem hi)
    simp only [script_command.l0]
    rw [if_pos (by omega), if_pos (by omega), if_pos (by omega), rdOf_get _ _ _ hi, number_good _ hm.1 hm.2, Option.bind_some, List.drop_eq_getElem_cons hi]
    simp only [List.map_cons, List.all_cons]
    by_cases hg : goodNum (bl args[i]) = true
    · rw [if_pos hg, hg, Bool.true_and]
      simp only []
      rw [if_pos trivial, if_pos (by omega), w64 (by omega) (by omega), show (i : Int) + 1 = ((i + 1 : Nat) : Int) from rfl, ih (i + 1) k _ (by omega) (by omega) (by simp; omega)]
      simp
    · rw [if_neg hg, Bool.eq_false_iff.2 hg]
      simp
theorem command_is (ws : List ByteArray) (h0 : ws ≠ []) (hs : ∀ a ∈ ws, 0 < a.size ∧ a.size ≤ 4294967296) (hl : ws.length ≤ 10000000) (k : Nat) (hk : 10 ≤ k) :
    script_command.f k ws = some (mk (cmdSpec (ws.map bl)).1, (cmdSpec (ws.map bl)).2.1, (cmdSpec (ws.map bl)).2.2) := by
  cases ws with
  | nil => exact absurd rfl h0
  | cons w args =>
    have hw := rdOf_get ByteArray.empty (w :: args) 0 (by simp)
    rw [show ((0 : Nat) : Int) = 0 from rfl] at hw
    simp only [List.getElem_cons_zero] at hw
    unfold script_command.f
    rw [if_pos (by simp only [List.length_cons]; omega), hw, takes_is k (by omega), Option.bind_some]
    simp only [List.map_cons, cmdSpec]
    by_cases ht : takesL (bl w) = -1
    · rw [if_pos ht, if_pos ht]
      rfl
    · have hr := takesL_range (bl w)
      rw [if_neg ht, if_neg ht]
      simp only [List.length_cons, List.length_map]
      rw [if_pos trivial, w64 (by omega) (by omega)]
      by_cases hn : ((args.length : Int) ≠ takesL (bl w))
      · rw [if_neg (by omega), if_pos hn]
        rfl
      · rw [if_pos (by omega), if_neg hn, if_pos (by omega)]
        have hloop := command_loop args w (fun a ha => hs a (List.mem_cons_of_mem _ ha)) (by omega) args.length 0 k [] (by omega) (by omega) (by simp; omega)
        simp only [List.drop_succ_cons, List.drop_zero] at hloop ⊢
        refine hloop.trans ?_
        by_cases hg : (args.map bl).all goodNum = true
        · rw [if_pos hg, if_pos hg]
          simp [mk_bl]
        · rw [if_neg hg, if_neg hg]
          rfl
end Go.Proofs.YtlfoaaeelcmhiaaDoor.Pure
end

section
/- Plain laws, on: what script.Parse answers, over lists of bytes. -/
namespace Go.Proofs.YtlfoaaeelcmhiaaDoor.Pure
open Go.RowKit Go.Proofs.YtlfoaaeelcmhiaaDoor.G Go.Proofs.YtlfoaaeelcmhiaaDoorW.PrintWords
set_option linter.unusedVariables false
abbrev Cmd := Bytes × List Int
def toS (c : Cmd) : S30 := ⟨mk c.1, c.2⟩
def lineWords (p : Bytes) : List Bytes := (splitL 32 p).filter (· ≠ [])
def isNote : List Bytes → Bool
  | (35 :: _) :: _ => true
  | _ => false
def parseS : List Bytes → List Cmd → Int → List Cmd × Int × Int
  | [], l, _ => (l, 0, 0)
  | p :: ps, l, at_ =>
    if lineWords p = [] then parseS ps l (at_ + 1)
    else if isNote (lineWords p) = true then parseS ps l (at_ + 1)
    else if l.length = 4096 then ([], at_ + 1, 210)
    else if (cmdSpec (lineWords p)).2.2 = 0 then parseS ps (l ++ [((cmdSpec (lineWords p)).1, (cmdSpec (lineWords p)).2.1)]) (at_ + 1)
    else ([], at_ + 1, (cmdSpec (lineWords p)).2.2)
def parseT (t : Bytes) : List Cmd × Int × Int := if 65536 < t.length then ([], 0, 210) else parseS (splitL 10 t) [] 0
theorem splitL_mem (c : UInt8) (l : Bytes) : (∀ p ∈ splitL c l, p.length ≤ l.length) ∧ (splitL c l).length ≤ l.length + 1 := by
  induction l with
  | nil => simp [splitL]
  | cons x xs ih =>
    rw [splitL_cons]
    split
    · refine ⟨fun p hp => ?_, by simp only [List.length_cons]; have := ih.2; omega⟩
      rcases List.mem_cons.1 hp with h | h
      · subst h; simp
      · have := ih.1 p h; simp only [List.length_cons]; omega
    · cases hs : splitL c xs with
      | nil => exact absurd hs (splitL_ne c xs)
      | cons q qs =>
        rw [hs] at ih
        refine ⟨fun p hp => ?_, by have := ih.2; simp only [List.length_cons] at this ⊢; omega⟩
        rcases List.mem_cons.1 hp with h | h
        · subst h; have := ih.1 q List.mem_cons_self; simp only [List.length_cons]; omega
        · have := ih.1 p (List.mem_cons_of_mem _ h); simp only [List.length_cons]; omega
theorem fields_mem (p w : ByteArray) (hw : w ∈ Lib.goFieldsP isBlank p) : 0 < w.size ∧ w.size ≤ p.size := by
  have h := fields_list p
  have hm : bl w ∈ (splitL 32 (bl p)).filter (· ≠ []) := by rw [← h]; exact List.mem_map_of_mem hw
  rw [List.mem_filter] at hm
  have h1 := (splitL_mem 32 (bl p)).1 _ hm.1
  rw [bl_length, bl_length] at h1
  refine ⟨?_, h1⟩
  have h2 : bl w ≠ [] := by simpa using hm.2
  have := List.length_pos_iff.2 h2
  rwa [bl_length] at this
theorem fields_count (p : ByteArray) : (Lib.goFieldsP isBlank p).length ≤ p.size + 1 := by
  have h := congrArg List.length (fields_list p)
  rw [List.length_map] at h
  rw [h]
  have h1 := (splitL_mem 32 (bl p)).2
  rw [bl_length] at h1
  exact Nat.le_trans (List.length_filter_le _ _) h1
theorem note_is (ws : List ByteArray) (h : ws ≠ []) (h0 : 0 < (rdOf ByteArray.empty ws 0).size) : (bt (rdOf ByteArray.empty ws 0) 0 = 35) ↔ isNote (ws.map bl) = true := by
  cases ws with
  | nil => exact absurd rfl h
  | cons w more =>
    have hw := rdOf_get ByteArray.empty (w :: more) 0 (by simp)
    rw [show ((0 : Nat) : Int) = 0 from rfl] at hw
    simp only [List.getElem_cons_zero] at hw
    rw [hw] at h0 ⊢
    have hg := get_bl w 0 h0
    cases hb : bl w with
    | nil => rw [hb] at hg; cases hg
    | cons b l =>
      rw [hb] at hg
      have hbt : bt w 0 = (b.toNat : Int) := by
        have hgb : w.get! 0 = b := by simpa using hg.symm
        have h0' : 0 < w.data.size := h0
        rw [← hgb]
        unfold bt
        rw [dif_pos (show (0 : Int).toNat < w.size from h0)]
        congr 2
        unfold ByteArray.get!
        exact (getElem!_pos w.data 0 h0').symm
      rw [hbt, List.map_cons, hb]
      by_cases hb35 : b = 35
      · subst hb35; exact ⟨fun _ => rfl, fun _ => rfl⟩
      · have h1 : ¬ ((b.toNat : Int) = 35) := fun e => hb35 (UInt8.toNat_inj.1 (show b.toNat = 35 from by omega))
        constructor
        · intro e; exact absurd e h1
        · intro e
          unfold isNote at e
          split at e
          · next h2 => injection h2 with h2 _; injection h2 with h2 _; exact absurd h2 hb35
          · cases e
theorem parseL_is (ps : List ByteArray) (l : List Cmd) (at_ : Int) (hs : ∀ p ∈ ps, p.size ≤ 65536) :
    parseL ps (l.map toS) at_ = some ((parseS (ps.map bl) l at_).1.map toS, (parseS (ps.map bl) l at_).2.1, (parseS (ps.map bl) l at_).2.2) := by
  induction ps generalizing l at_ with
  | nil => rfl
  | cons p ps ih =>
    have hp := hs p List.mem_cons_self
    have ih' := fun l at_ => ih l at_ (fun q hq => hs q (List.mem_cons_of_mem _ hq))
    have hf : (Lib.goFieldsP isBlank p).map bl = lineWords (bl p) := fields_list p
    have hm := fields_mem p
    have hc := fields_count p
    simp only [parseL, List.map_cons, parseS]
    rw [← hf]
    generalize Lib.goFieldsP isBlank p = ws at *
    by_cases h0 : ws.length = 0
    · have hn : ws = [] := List.eq_nil_of_length_eq_zero h0
      rw [if_pos h0, if_pos (show ws.map bl = [] from by rw [hn]; rfl)]
      exact ih' l _
    · have hne : ws ≠ [] := fun e => h0 (by rw [e]; rfl)
      have hw0 : rdOf ByteArray.empty ws 0 ∈ ws := by
        have := rdOf_get ByteArray.empty ws 0 (by omega)
        rw [show ((0 : Nat) : Int) = 0 from rfl] at this
        rw [this]
        exact List.getElem_mem _
      have hsz := (hm _ hw0).1
      rw [if_neg h0, if_neg (show ¬ (rdOf ByteArray.empty ws 0).size = 0 from by omega), if_neg (show ¬ ws.map bl = [] from fun e => hne (List.map_eq_nil_iff.1 e))]
      by_cases h35 : bt (rdOf ByteArray.empty ws 0) 0 = 35
      · rw [if_pos h35, if_pos ((note_is ws hne hsz).1 h35)]
        exact ih' l _
      · rw [if_neg h35, if_neg (fun h => h35 ((note_is ws hne hsz).2 h)), List.length_map]
        by_cases hl : l.length = 4096
        · rw [if_pos hl, if_pos hl]
          rfl
        · rw [if_neg hl, if_neg hl, command_is ws hne (fun a ha => by have := hm a ha; omega) (by omega) parseK (by decide)]
          simp only []
          by_cases he : (cmdSpec (ws.map bl)).2.2 = 0
          · rw [if_pos he, if_pos he]
            have := ih' (l ++ [((cmdSpec (ws.map bl)).1, (cmdSpec (ws.map bl)).2.1)]) (at_ + 1)
            rw [List.map_append] at this
            exact this
          · rw [if_neg he, if_neg he]
            rfl
theorem parse_is (a : ByteArray) : script_Parse.f a = some ((parseT (bl a)).1.map toS, (parseT (bl a)).2.1, (parseT (bl a)).2.2) := by
  unfold script_Parse.f parseT
  rw [bl_length]
  by_cases h : 65536 < a.size
  · rw [if_pos (by omega), if_pos h]
    rfl
  · rw [if_neg (by omega), if_neg h]
    have := parseL_is (pieces 10 a.size a) [] 0 (fun p hp => by have := pieces_size 10 a.size a p hp; omega)
    rw [pieces_list 10 a.size a (Nat.le_refl _)] at this
    exact this
end Go.Proofs.YtlfoaaeelcmhiaaDoor.Pure
end

section
-- Written by a program of this session (wip/gprint.py: the kit's print, with contracts proved by hand)
namespace Go.Proofs.YtlfoaaeelcmhiaaDoor.G
open Go.RowKit Go.Proofs.YtlfoaaeelcmhiaaDoorW.PrintWords Go.Proofs.YtlfoaaeelcmhiaaDoorW.PrintLast Go.Proofs.YtlfoaaeelcmhiaaDoorW.PrintMore
attribute [local go_sem] max2_int min2_int max_two min_two max_three min_three max_four min_four   -- for this text's walks alone
set_option linter.unusedVariables false
set_option linter.unusedSimpArgs false

/-! ### script_Print: function 16 -/
mutual
def script_Print.l0 : Nat → List Int → List (S30) → Int → Int → Option (ByteArray × Int)
  | 0, _, _, _, _ => none
  | k + 1, x4, x14, x15, x16 => if x16 < x15 then (if 0 ≤ x16 then (if x16 < (x14.length : Int) then ((script_takes.f k ((rd_T30 x14 x16).f0)).bind fun bt125 => (if bt125.2 = true then (if (((rd_T30 x14 x16).f1).length : Int) = bt125.1 then (if x4.length + ((rd_T30 x14 x16).f0).size < 140737488355328 then (script_Print.l1 k (x4 ++ bytesOf ((rd_T30 x14 x16).f0)) x14 x15 x16 ((rd_T30 x14 x16).f1) (((rd_T30 x14 x16).f1).length : Int) 0) else (none)) else (some ((⟨#[]⟩ : ByteArray), 213))) else (some ((⟨#[]⟩ : ByteArray), 211)))) else (none)) else (none)) else (if (x4.length : Int) > 65536 then (some ((⟨#[]⟩ : ByteArray), 210)) else (some (strOfNums x4, 0)))
def script_Print.l1 : Nat → List Int → List (S30) → Int → Int → List Int → Int → Int → Option (ByteArray × Int)
  | 0, _, _, _, _, _, _, _ => none
  | k + 1, x4, x14, x15, x16, x40, x41, x42 => if x42 < x41 then (if 0 ≤ x42 then (if x42 < (x40.length : Int) then (if x4.length < 140737488355328 then ((strconv_AppendUint.f (x4 ++ [32]) (rd x40 x42) 10).bind fun t134 => (script_Print.l1 k t134 x14 x15 x16 x40 x41 (wrap64 (x42 + 1)))) else (none)) else (none)) else (none)) else (if x4.length < 140737488355328 then (script_Print.l0 k (x4 ++ [10]) x14 x15 (wrap64 (x16 + 1))) else (none))
end
def script_Print.f (k : Nat) (l0 : List (S30)) : Option (ByteArray × Int) := if (l0.length : Int) > 4096 then (some ((⟨#[]⟩ : ByteArray), 210)) else (script_Print.l0 k ([] : List Int) l0 (l0.length : Int) 0)
theorem script_Print.mono_l : ∀ k, (∀ y0 y1 y2 y3, LeO (script_Print.l0 k y0 y1 y2 y3) (script_Print.l0 (k + 1) y0 y1 y2 y3)) ∧ (∀ y0 y1 y2 y3 y4 y5 y6, LeO (script_Print.l1 k y0 y1 y2 y3 y4 y5 y6) (script_Print.l1 (k + 1) y0 y1 y2 y3 y4 y5 y6))
  | 0 => ⟨fun _ _ _ _ r h => by simp [script_Print.l0] at h, fun _ _ _ _ _ _ _ r h => by simp [script_Print.l1] at h⟩
  | k + 1 => by
    obtain ⟨ih0, ih1⟩ := script_Print.mono_l k
    refine ⟨?_, ?_⟩
    · intro y0 y1 y2 y3
      unfold script_Print.l0
      repeat' first
      | (with_reducible exact ih0 _ _ _ _)
      | (with_reducible exact ih1 _ _ _ _ _ _ _)
      | (with_reducible exact script_takes.mono _ _)
      | (with_reducible exact LeO.refl _)
      | (with_reducible exact LeO.none _)
      | (with_reducible refine LeO.ite ?_ ?_)
      | (with_reducible refine LeO.bind ?_ (fun _ => ?_))
      | exact ih0 _ _ _ _
      | exact ih1 _ _ _ _ _ _ _
      | exact script_takes.mono _ _
      | exact LeO.none _
      | refine LeO.ite ?_ ?_
      | refine LeO.bind ?_ (fun _ => ?_)
    · intro y0 y1 y2 y3 y4 y5 y6
      unfold script_Print.l1
      repeat' first
      | (with_reducible exact ih0 _ _ _ _)
      | (with_reducible exact ih1 _ _ _ _ _ _ _)
      | (with_reducible exact script_takes.mono _ _)
      | (with_reducible exact LeO.refl _)
      | (with_reducible exact LeO.none _)
      | (with_reducible refine LeO.ite ?_ ?_)
      | (with_reducible refine LeO.bind ?_ (fun _ => ?_))
      | exact ih0 _ _ _ _
      | exact ih1 _ _ _ _ _ _ _
      | exact script_takes.mono _ _
      | exact LeO.none _
      | refine LeO.ite ?_ ?_
      | refine LeO.bind ?_ (fun _ => ?_)
theorem script_Print.mono : ∀ a0 k, LeO (script_Print.f k a0) (script_Print.f (k + 1) a0) := by
  intro a0 k
  obtain ⟨ih0, ih1⟩ := script_Print.mono_l k
  unfold script_Print.f
  repeat' first
      | (with_reducible exact ih0 _ _ _ _)
      | (with_reducible exact ih1 _ _ _ _ _ _ _)
      | (with_reducible exact script_takes.mono _ _)
      | (with_reducible exact LeO.refl _)
      | (with_reducible exact LeO.none _)
      | (with_reducible refine LeO.ite ?_ ?_)
      | (with_reducible refine LeO.bind ?_ (fun _ => ?_))
      | exact ih0 _ _ _ _
      | exact ih1 _ _ _ _ _ _ _
      | exact script_takes.mono _ _
      | exact LeO.none _
      | refine LeO.ite ?_ ?_
      | refine LeO.bind ?_ (fun _ => ?_)
set_option maxHeartbeats 8000000 in
set_option maxRecDepth 100000 in
theorem script_Print.calls (k : Nat) (A0 : Option Addr) (c0 : Nat) (l0 : List (S30)) (r1 : ByteArray) (r2 : Int) (w : World) (hr0 : Kd.C k30 w A0 l0.length l0) (hc0 : l0.length ≤ c0) (hT : Tabs w) (h : script_Print.f k l0 = some (r1, r2)) :
    Calls Tryd.prog 16 #[.slice A0 l0.length c0] w fun e w' => e = .returned (.tuple #[.string r1, .int .i64 r2]) ∧ Below w.heap.size w w' := by
  have HT := Aside0.mk hT
  clear hT
  have hu30 := Tryd.underlying30
  have HR0 := Aside0.mk hr0
  have HC0 := Aside0.mk hc0
  clear hr0 hc0
  have HB := Aside0.mk (Below.refl w.heap.size w)
  have H : (if (l0.length : Int) > 4096 then (some ((⟨#[]⟩ : ByteArray), 210)) else (script_Print.l0 k ([] : List Int) l0 (l0.length : Int) 0)) = some (r1, r2) := h
  clear h
  by_cases c2 : (l0.length : Int) > 4096
  · rw [if_pos c2] at H
    have c2b0 : decide (4096 < (l0.length : Int)) = true := decide_eq_true c2
    have c2b1 : decide (4096 < l0.length) = true := decide_eq_true (by omega)
    clear c2
    simp only [Option.some.injEq, Prod.mk.injEq] at H
    obtain ⟨rfl, rfl⟩ := H
    go_enter Tryd.func16, Tryd.ntmps16
    go_wp2
    go_ret2
    exact ⟨by first | rfl | (simp [errW_none, errW_some] <;> rfl) | (simp [*, errW_none, errW_some] <;> rfl), by repeat (first | (with_reducible first | exact HB.out | apply below_alloc | apply pw_below_drewN | apply below_drew1) | exact HB.out)⟩
  · rw [if_neg c2] at H
    have c2b0 : decide (4096 < (l0.length : Int)) = false := decide_eq_false c2
    have c2b1 : decide (4096 < l0.length) = false := decide_eq_false (by omega)
    clear c2
    have H' := Aside0.mk H
    clear H
    go_enter Tryd.func16, Tryd.ntmps16
    go_wp2
    go_loopg [4, 16] k (fun kq v4 v16 w' => ∃ (x4_1 : List Int) (x16_1 : Int), v16 = .int .i64 x16_1 ∧ Aside0 (script_Print.l0 kq x4_1 l0 (l0.length : Int) x16_1 = some (r1, r2)) ∧ Aside0 (kq ≤ k) ∧ Aside0 (Kd.R (Kd.int .u8) 5 w' w.heap.size (fun _ => True) v4 x4_1) ∧ Aside0 (Below w.heap.size w w'))
    case atStart => exact ⟨(([] : List Int)), (0), (by first | rfl | (simp; done) | (simp [*]; done)), H', ⟨Nat.le_refl _⟩, ⟨by first | exact Kd.R_nil _ _ _ _ _ | exact Kd.N_nil _ _ _ _ _ | exact Kd.V_nil _ _ _ _ _ | exact Kd.Q_nil _ _ _ _ _ | exact Kd.S_nil _ _ _ _ _⟩, ⟨by repeat (first | (with_reducible first | exact HB.out | apply below_alloc | apply pw_below_drewN | apply below_drew1) | exact HB.out)⟩⟩
    case round =>
      clear H'
      try clear c1
      try clear c2
      try clear c2b0
      try clear c2b1
      try clear p2
      obtain ⟨x4_1, x16_1, rfl, HA, HK1, HO_4, HB⟩ := hrel
      cases gk with
      | zero => exact absurd HA.out (by simp [script_Print.l0])
      | succ k1 =>
        have H := HA.out
        clear HA
        simp only [script_Print.l0] at H
        by_cases c3 : x16_1 < (l0.length : Int)
        · rw [if_pos c3] at H
          have c3b0 : decide (x16_1 < (l0.length : Int)) = true := decide_eq_true c3
          clear c3
          by_cases c4 : 0 ≤ x16_1
          · rw [if_pos c4] at H
            have c4b0 : decide (0 ≤ x16_1) = true := decide_eq_true c4
            clear c4
            by_cases c5 : x16_1 < (l0.length : Int)
            · rw [if_pos c5] at H
              have c5b0 : decide (x16_1 < (l0.length : Int)) = true := decide_eq_true c5
              clear c5
              replace H := Option.bind_eq_some_iff.mp H
              obtain ⟨⟨t125, t126⟩, A60, H⟩ := H
              replace H : (if t126 = true then (if (((rd_T30 l0 x16_1).f1).length : Int) = t125 then (if x4_1.length + ((rd_T30 l0 x16_1).f0).size < 140737488355328 then (script_Print.l1 k1 (x4_1 ++ bytesOf ((rd_T30 l0 x16_1).f0)) l0 (l0.length : Int) x16_1 ((rd_T30 l0 x16_1).f1) (((rd_T30 l0 x16_1).f1).length : Int) 0) else (none)) else (some ((⟨#[]⟩ : ByteArray), 213))) else (some ((⟨#[]⟩ : ByteArray), 211))) = some (r1, r2) := H
              have A6 := Aside0.mk A60
              clear A60
              by_cases c7 : t126 = true
              · subst c7
                have H1 : (if (((rd_T30 l0 x16_1).f1).length : Int) = t125 then (if x4_1.length + ((rd_T30 l0 x16_1).f0).size < 140737488355328 then (script_Print.l1 k1 (x4_1 ++ bytesOf ((rd_T30 l0 x16_1).f0)) l0 (l0.length : Int) x16_1 ((rd_T30 l0 x16_1).f1) (((rd_T30 l0 x16_1).f1).length : Int) 0) else (none)) else (some ((⟨#[]⟩ : ByteArray), 213))) = some (r1, r2) := by rw [if_pos rfl] at H; exact H
                clear H
                have H := H1
                clear H1
                by_cases c8 : (((rd_T30 l0 x16_1).f1).length : Int) = t125
                · rw [if_pos c8] at H
                  have c8b0 : ((((rd_T30 l0 x16_1).f1).length : Int) == t125) = true := beq_iff_eq.mpr c8
                  have c8b1 : ((((rd_T30 l0 x16_1).f1).length : Int) != t125) = false := bne_eq_false_iff_eq.mpr c8
                  clear c8
                  by_cases c9 : x4_1.length + ((rd_T30 l0 x16_1).f0).size < 140737488355328
                  · rw [if_pos c9] at H
                    have LMc9 := Aside0.mk c9
                    clear c9
                    obtain ⟨y127, hy127⟩ : ∃ y_ : List Int, y_ = (x4_1 ++ bytesOf ((rd_T30 l0 x16_1).f0)) := ⟨_, rfl⟩
                    replace H : (script_Print.l1 k1 y127 l0 (l0.length : Int) x16_1 ((rd_T30 l0 x16_1).f1) (((rd_T30 l0 x16_1).f1).length : Int) 0) = some (r1, r2) := by first | (rw [hy127]; with_reducible exact H) | (have H2_ := (Option.bind_some _ _).symm.trans H; rw [hy127]; with_reducible exact H2_) | (have H2_ := (Option.bind_some _ _).symm.trans H; with_reducible exact H2_) | with_reducible exact H | (rw [hy127]; exact H) | exact H
                    have Ny127 := Aside0.mk hy127
                    clear hy127
                    have H' := Aside0.mk H
                    clear H
                    have p123 : 0 ≤ (x16_1 : Int) := of_decide_eq_true (by first | (with_reducible assumption) | assumption)
                    have q123 : x16_1 < (l0.length : Int) := of_decide_eq_true (by first | (with_reducible assumption) | assumption)
                    obtain ⟨ad123, A123_1, c123_1, e123, hx123_0, hx123_1, hl123_1, hi123_1⟩ := at_T30 HR0.out x16_1 p123 q123
                    cases e123
                    replace hx123_0 := (HB.out.cell (World.block_lt_of_cell? w _ hx123_0)).trans hx123_0
                    replace hx123_1 := (HB.out.cell (World.block_lt_of_cell? w _ hx123_1)).trans hx123_1
                    have HR123_1 := Aside0.mk hi123_1
                    have HC123_1 := Aside0.mk hl123_1
                    clear hi123_1 hl123_1
                    replace p123 := eq_true p123
                    replace q123 := eq_true q123
                    go_wp2_with (first | ((with_reducible refine gate_dst (N := 6) rfl ?_); refine box_event ?hg (N := 6) ?hd (cs := #[.string (⟨#[]⟩ : ByteArray), .slice none 0 0]) (t := 30) ?hr ?_; (case hd => rfl); (case hg => rfl); (case hr => first | (go_simp; done) | (go_simp; rfl)); intro gb124 hg w10 hbox hb; have n0_ := Aside0.mk (Kd.R_below (by (with_reducible repeat (first | apply Kd.R_alloc | apply Kd.R_drewN | apply Kd.R_drew)); exact HO_4.out) hb); have n1_ := Aside0.mk (below_step (by repeat (first | (with_reducible first | exact HB.out | apply below_alloc | apply pw_below_drewN | apply below_drew1) | exact HB.out)) hb); have n2_ := Aside0.mk (hbox); have n3_ := Aside0.mk ((by rw [hg]; exact (below_size (by repeat (first | (with_reducible first | exact HB.out | apply below_alloc | apply pw_below_drewN | apply below_drew1) | exact HB.out))) : w.heap.size ≤ gb124)); have n4_ := Aside0.mk ((by rw [hg]; exact (below_size (by repeat (first | (with_reducible first | exact HB.out | apply below_alloc | apply pw_below_drewN | apply below_drew1) | exact HB.out))) : w.heap.size ≤ gb124)); clear HO_4; clear HB; have HO_4 := n0_; have HB := n1_; have BK124 := n2_; have GW124 := n3_; have GE124 := n4_; clear n0_ n1_ n2_ n3_ n4_; clear hb hbox hg; have hcz11_0 : w10.cell? ⟨gb124, 0, none⟩ = some (.string (⟨#[]⟩ : ByteArray)) := (blk_cell BK124.out 0).trans rfl; have hcz11_1 : w10.cell? ⟨gb124, 1, none⟩ = some (.slice none 0 0) := (blk_cell BK124.out 1).trans rfl; have hfz11_0 := blk_frozen BK124.out 0; have hfz11_1 := blk_frozen BK124.out 1) | ((with_reducible refine gate_callee (f := 27) rfl ?_); refine goesL_ (some 23) rfl rfl Tryd.func27 (by kernel_rfl) rfl #[.string ((rd_T30 l0 x16_1).f0)] rfl (by (try simp only [List.map_toArray, List.map_cons, List.map_nil]); first | done | rfl | (simp only [List.length_drop, List.length_take]; rfl)) ?_; (with_reducible refine (script_takes.calls k1 ((rd_T30 l0 x16_1).f0) t125 true _ A6.out).mono ?_); rintro e w' ⟨rfl, ⟨nd, rfl⟩⟩; refine ⟨_, rfl, ?_⟩) | (at_builtin; refine print_append_str (w0 := w) w.heap.size rfl (.tmp 35) _ 47 9 5 rfl Tryd.underlying47 Tryd.underlying9 info5 u4 x4_1 ((rd_T30 l0 x16_1).f0) rfl rfl ?aO ?aB ?aS ?aL ?_; (case aB => exact (by repeat (first | (with_reducible first | exact HB.out | apply below_alloc | apply pw_below_drewN | apply below_drew1 | refine below_set ?_ GE124.out) | exact HB.out))); (case aO => exact (Kd.own_of_R (by (with_reducible repeat (first | apply Kd.R_alloc | apply Kd.R_drewN | apply Kd.R_drew)); exact Kd.R_mono (Kd.R_far (p := ⟨gb124, 1, none⟩) (Kd.R_far (p := ⟨gb124, 0, none⟩) (Kd.R_types HO_4.out BK124.out (by decide)) (fun _ hk => hk.2) (.string ((rd_T30 l0 x16_1).f0))) (fun _ hk => hk.2) (.slice A123_1 ((rd_T30 l0 x16_1).f1).length c123_1)) (fun _ hk => trivial)))); (case aS => exact (below_size (by repeat (first | (with_reducible first | exact HB.out | apply below_alloc | apply pw_below_drewN | apply below_drew1 | refine below_set ?_ GE124.out) | exact HB.out)))); (case aL => have := LMc9.out; omega); intro v128 w12 ho0 hb hg; have ho := Kd.R_of_own (h1 := fun _ => rfl) (ok := fun _ => True) ho0 (fun _ _ => trivial); clear ho0; have hat := True.intro; rw [← Ny127.out] at ho; change Kd.R (Kd.int .u8) 5 w12 w.heap.size (fun _ => True) v128 y127 at ho; have n0_ := Aside0.mk (blk_grown (g := gb124) (o := .cells #[.string ((rd_T30 l0 x16_1).f0), .slice A123_1 ((rd_T30 l0 x16_1).f1).length c123_1] 30 (0, 0)) (by (with_reducible repeat (first | refine blk_drewN ?_ _ | refine blk_drew ?_ | refine blk_alloc ?_ _)); refine blk_put (cs := #[.string ((rd_T30 l0 x16_1).f0), .slice none 0 0]) ?_ 1 _ rfl; (with_reducible repeat (first | refine blk_drewN ?_ _ | refine blk_drew ?_ | refine blk_alloc ?_ _)); refine blk_put (cs := #[.string (⟨#[]⟩ : ByteArray), .slice none 0 0]) ?_ 0 _ rfl; (with_reducible repeat (first | refine blk_drewN ?_ _ | refine blk_drew ?_ | refine blk_alloc ?_ _)); exact BK124.out) hg (Kd.R_ne HO_4.out BK124.out (by decide))); have n1_ := Aside0.mk (hb); have n2_ := Aside0.mk (ho); clear BK124; clear HB; clear HO_4; have BK124 := n0_; have HB := n1_; have HO129 := n2_; clear n0_ n1_ n2_; clear ho hb hg hat; have hcz13_0 : w12.cell? ⟨gb124, 0, none⟩ = some (.string ((rd_T30 l0 x16_1).f0)) := (blk_cell BK124.out 0).trans rfl; have hcz13_1 : w12.cell? ⟨gb124, 1, none⟩ = some (.slice A123_1 ((rd_T30 l0 x16_1).f1).length c123_1) := (blk_cell BK124.out 1).trans rfl; have hfz13_0 := blk_frozen BK124.out 0; have hfz13_1 := blk_frozen BK124.out 1))
                    go_loopg [4, 42] k1 (fun kq v4 v42 w' => ∃ (x4_2 : List Int) (x42_2 : Int), v42 = .int .i64 x42_2 ∧ Aside0 (script_Print.l1 kq x4_2 l0 (l0.length : Int) x16_1 ((rd_T30 l0 x16_1).f1) (((rd_T30 l0 x16_1).f1).length : Int) x42_2 = some (r1, r2)) ∧ Aside0 (kq ≤ k1) ∧ Aside0 (Kd.R (Kd.int .u8) 5 w' w.heap.size (fun _ => True) v4 x4_2) ∧ Aside0 (w'.heap[gb124]? = some (.cells #[.string ((rd_T30 l0 x16_1).f0), (.slice A123_1 ((rd_T30 l0 x16_1).f1).length c123_1)] 30 (0, 0))) ∧ Aside0 (Below w.heap.size w w'))
                    case atStart => exact ⟨(y127), (0), (by first | rfl | (simp; done) | (simp [*]; done)), H', ⟨Nat.le_refl _⟩, ⟨by (with_reducible repeat (first | apply Kd.R_alloc | apply Kd.R_drewN | apply Kd.R_drew)); exact HO129.out⟩, ⟨by (with_reducible repeat (first | refine blk_drewN ?_ _ | refine blk_drew ?_ | refine blk_alloc ?_ _)); exact BK124.out⟩, ⟨by repeat (first | (with_reducible first | exact HB.out | apply below_alloc | apply pw_below_drewN | apply below_drew1 | refine below_set ?_ GE124.out) | exact HB.out)⟩⟩
                    case round =>
                      clear H'
                      try clear c1
                      try clear p1
                      try clear q1
                      try clear hx1
                      try clear c2
                      try clear c2b0
                      try clear c2b1
                      try clear p2
                      try clear c3
                      try clear c3b0
                      try clear c4
                      try clear c4b0
                      try clear c5
                      try clear c5b0
                      try clear c7
                      try clear c8
                      try clear c8b0
                      try clear c8b1
                      try clear c9
                      try clear c12
                      try clear p12
                      try clear q12
                      try clear hx12
                      try clear hcz11_0
                      try clear hcz11_1
                      try clear hcz13_0
                      try clear hcz13_1
                      try clear hfz11_0
                      try clear hfz11_1
                      try clear hfz13_0
                      try clear hfz13_1
                      try clear hx123_0
                      try clear hx123_1
                      try clear p123
                      try clear p2
                      try clear q123
                      obtain ⟨x4_2, x42_2, rfl, HA, HK2, HO_4, BK124, HB⟩ := hrel
                      cases gk with
                      | zero => exact absurd HA.out (by simp [script_Print.l1])
                      | succ k2 =>
                        have H := HA.out
                        clear HA
                        simp only [script_Print.l1] at H
                        by_cases c14 : x42_2 < (((rd_T30 l0 x16_1).f1).length : Int)
                        · rw [if_pos c14] at H
                          have c14b0 : decide (x42_2 < (((rd_T30 l0 x16_1).f1).length : Int)) = true := decide_eq_true c14
                          clear c14
                          by_cases c15 : 0 ≤ x42_2
                          · rw [if_pos c15] at H
                            have c15b0 : decide (0 ≤ x42_2) = true := decide_eq_true c15
                            clear c15
                            by_cases c16 : x42_2 < (((rd_T30 l0 x16_1).f1).length : Int)
                            · rw [if_pos c16] at H
                              have c16b0 : decide (x42_2 < (((rd_T30 l0 x16_1).f1).length : Int)) = true := decide_eq_true c16
                              clear c16
                              by_cases c17 : x4_2.length < 140737488355328
                              · rw [if_pos c17] at H
                                have LMc17 := Aside0.mk c17
                                clear c17
                                obtain ⟨y131, hy131⟩ : ∃ y_ : List Int, y_ = (x4_2 ++ [32]) := ⟨_, rfl⟩
                                replace H : ((strconv_AppendUint.f y131 (rd ((rd_T30 l0 x16_1).f1) x42_2) 10).bind fun t134 => (script_Print.l1 k2 t134 l0 (l0.length : Int) x16_1 ((rd_T30 l0 x16_1).f1) (((rd_T30 l0 x16_1).f1).length : Int) (wrap64 (x42_2 + 1)))) = some (r1, r2) := by first | (rw [hy131]; with_reducible exact H) | (have H2_ := (Option.bind_some _ _).symm.trans H; rw [hy131]; with_reducible exact H2_) | (have H2_ := (Option.bind_some _ _).symm.trans H; with_reducible exact H2_) | with_reducible exact H | (rw [hy131]; exact H) | exact H
                                have Ny131 := Aside0.mk hy131
                                clear hy131
                                replace H := Option.bind_eq_some_iff.mp H
                                obtain ⟨t134, A180, H⟩ := H
                                replace H : (script_Print.l1 k2 t134 l0 (l0.length : Int) x16_1 ((rd_T30 l0 x16_1).f1) (((rd_T30 l0 x16_1).f1).length : Int) (wrap64 (x42_2 + 1))) = some (r1, r2) := H
                                have A18 := Aside0.mk A180
                                clear A180
                                have H' := Aside0.mk H
                                clear H
                                have p130 : 0 ≤ (x42_2 : Int) := of_decide_eq_true (by first | (with_reducible assumption) | assumption)
                                have q130 : x42_2 < (((rd_T30 l0 x16_1).f1).length : Int) := of_decide_eq_true (by first | (with_reducible assumption) | assumption)
                                obtain ⟨ad130, e130, hx130_0⟩ := Kd.at_int HR123_1.out x42_2 p130 q130
                                cases e130
                                replace hx130_0 := (HB.out.cell (World.block_lt_of_cell? w _ hx130_0)).trans hx130_0
                                replace p130 := eq_true p130
                                replace q130 := eq_true q130
                                go_wp2_with (first | ((with_reducible refine gate_builtin (b := .append) (xs := #[.tmp 46, .tmp 47]) rfl ?_); at_builtin; refine Kd.R_append (Kd.int .u8) (w0 := w) w.heap.size rfl (.tmp 46) (.tmp 47) 47 5 (.int .u8 0) 1 rfl Tryd.underlying47 info5 rfl (by decide) (by omega) u4 x4_2 32 [.int .u8 32] (fun _ => True) (fun _ => False) rfl rfl ?aP (fun _ hk => hk.elim) ?aF ?aO ?aB ?aS ?aL ?_; (case aP => exact rfl); (case aB => exact (by repeat (first | (with_reducible first | exact HB.out | apply below_alloc | apply pw_below_drewN | apply below_drew1 | refine below_set ?_ GE124.out) | exact HB.out))); (case aF => exact (fun _ _ => trivial)); (case aO => exact (by (with_reducible repeat (first | apply Kd.R_alloc | apply Kd.R_drewN | apply Kd.R_drew)); exact HO_4.out)); (case aS => exact (below_size (by repeat (first | (with_reducible first | exact HB.out | apply below_alloc | apply pw_below_drewN | apply below_drew1 | refine below_set ?_ GE124.out) | exact HB.out)))); (case aL => have := LMc17.out; omega); intro v132 w19 ho hb hg hat; rw [← Ny131.out] at ho; have n0_ := Aside0.mk (blk_grown (g := gb124) (o := .cells #[.string ((rd_T30 l0 x16_1).f0), .slice (some ad130) ((rd_T30 l0 x16_1).f1).length c123_1] 30 (0, 0)) (by (with_reducible repeat (first | refine blk_drewN ?_ _ | refine blk_drew ?_ | refine blk_alloc ?_ _)); exact BK124.out) hg (Kd.R_ne HO_4.out BK124.out (by decide))); have n1_ := Aside0.mk (hb); have n2_ := Aside0.mk (ho); clear BK124; clear HB; clear HO_4; have BK124 := n0_; have HB := n1_; have HO133 := n2_; clear n0_ n1_ n2_; clear ho hb hg hat; obtain ⟨Ao20, co20, eo20⟩ := Kd.R_slice HO133.out; subst eo20) | ((with_reducible refine gate_callee (f := 28) rfl ?_); refine goesL_ (some 50) rfl rfl Tryd.func28 (by kernel_rfl) rfl #[.slice Ao20 y131.length co20, .int .u64 (rd ((rd_T30 l0 x16_1).f1) x42_2), .int .i64 10] rfl (by (try simp only [List.map_toArray, List.map_cons, List.map_nil]); first | done | rfl | (simp only [List.length_drop, List.length_take]; rfl)) ?_; (with_reducible refine (strconv_AppendUint.calls (fun k_ => some k_ = (.slice Ao20 y131.length co20 : Value).ownBlock) (.slice Ao20 y131.length co20) y131 (rd ((rd_T30 l0 x16_1).f1) x42_2) 10 t134 w _ ?side1 ?side2 HT.out A18.out).mono ?_); (case side1 => repeat (first | (with_reducible first | exact HB.out | apply below_alloc | apply pw_below_drewN | apply below_drew1 | refine below_set ?_ GE124.out) | exact HB.out)); (case side2 => exact Kd.R_tight rfl HO133.out); rintro e w21 ⟨v135, rfl, ho0, hb, hkp⟩; refine ⟨_, rfl, ?_⟩; have n0_ := Aside0.mk (blk_others (by (with_reducible repeat (first | refine blk_drewN ?_ _ | refine blk_drew ?_ | refine blk_alloc ?_ _)); exact BK124.out) hkp (by decide)); have n1_ := Aside0.mk (Kd.R_mono (ok' := fun k_ => True) ho0 (fun k_ hk_ => trivial)); have n2_ := Aside0.mk (hb); clear BK124; clear HB; clear HO133; have BK124 := n0_; have HO136 := n1_; have HB := n2_; clear n0_ n1_ n2_; (try clear hb); (try clear hkp); (try clear ho0)))
                                go_roundg k2
                                case measure => have := HK1.out; have := HK2.out; omega
                                case rel => exact ⟨(t134), (wrap64 (x42_2 + 1)), (by first | rfl | (simp; done) | (simp [*]; done)), H', ⟨by have := HK1.out; have := HK2.out; omega⟩, ⟨by (with_reducible repeat (first | apply Kd.R_alloc | apply Kd.R_drewN | apply Kd.R_drew)); exact HO136.out⟩, ⟨by (with_reducible repeat (first | refine blk_drewN ?_ _ | refine blk_drew ?_ | refine blk_alloc ?_ _)); exact BK124.out⟩, ⟨by repeat (first | (with_reducible first | exact HB.out | apply below_alloc | apply pw_below_drewN | apply below_drew1 | refine below_set ?_ GE124.out) | exact HB.out)⟩⟩
                              · rw [if_neg c17] at H
                                exact absurd H (by simp)
                            · rw [if_neg c16] at H
                              exact absurd H (by simp)
                          · rw [if_neg c15] at H
                            exact absurd H (by simp)
                        · rw [if_neg c14] at H
                          have c14b0 : decide (x42_2 < (((rd_T30 l0 x16_1).f1).length : Int)) = false := decide_eq_false c14
                          clear c14
                          by_cases c22 : x4_2.length < 140737488355328
                          · rw [if_pos c22] at H
                            have LMc22 := Aside0.mk c22
                            clear c22
                            obtain ⟨y137, hy137⟩ : ∃ y_ : List Int, y_ = (x4_2 ++ [10]) := ⟨_, rfl⟩
                            replace H : (script_Print.l0 k2 y137 l0 (l0.length : Int) (wrap64 (x16_1 + 1))) = some (r1, r2) := by first | (rw [hy137]; with_reducible exact H) | (have H2_ := (Option.bind_some _ _).symm.trans H; rw [hy137]; with_reducible exact H2_) | (have H2_ := (Option.bind_some _ _).symm.trans H; with_reducible exact H2_) | with_reducible exact H | (rw [hy137]; exact H) | exact H
                            have Ny137 := Aside0.mk hy137
                            clear hy137
                            have H' := Aside0.mk H
                            clear H
                            go_wp2_with (first | ((with_reducible refine gate_builtin (b := .append) (xs := #[.tmp 52, .tmp 53]) rfl ?_); at_builtin; refine Kd.R_append (Kd.int .u8) (w0 := w) w.heap.size rfl (.tmp 52) (.tmp 53) 47 5 (.int .u8 0) 1 rfl Tryd.underlying47 info5 rfl (by decide) (by omega) u4 x4_2 10 [.int .u8 10] (fun _ => True) (fun _ => False) rfl rfl ?aP (fun _ hk => hk.elim) ?aF ?aO ?aB ?aS ?aL ?_; (case aP => exact rfl); (case aB => exact (by repeat (first | (with_reducible first | exact HB.out | apply below_alloc | apply pw_below_drewN | apply below_drew1 | refine below_set ?_ GE124.out) | exact HB.out))); (case aF => exact (fun _ _ => trivial)); (case aO => exact (by (with_reducible repeat (first | apply Kd.R_alloc | apply Kd.R_drewN | apply Kd.R_drew)); exact HO_4.out)); (case aS => exact (below_size (by repeat (first | (with_reducible first | exact HB.out | apply below_alloc | apply pw_below_drewN | apply below_drew1 | refine below_set ?_ GE124.out) | exact HB.out)))); (case aL => have := LMc22.out; omega); intro v138 w23 ho hb hg hat; rw [← Ny137.out] at ho; have n0_ := Aside0.mk (blk_grown (g := gb124) (o := .cells #[.string ((rd_T30 l0 x16_1).f0), .slice A123_1 ((rd_T30 l0 x16_1).f1).length c123_1] 30 (0, 0)) (by (with_reducible repeat (first | refine blk_drewN ?_ _ | refine blk_drew ?_ | refine blk_alloc ?_ _)); exact BK124.out) hg (Kd.R_ne HO_4.out BK124.out (by decide))); have n1_ := Aside0.mk (hb); have n2_ := Aside0.mk (ho); clear BK124; clear HB; clear HO_4; have BK124 := n0_; have HB := n1_; have HO139 := n2_; clear n0_ n1_ n2_; clear ho hb hg hat))
                            go_roundg k2
                            case measure => have := HK1.out; have := HK2.out; omega
                            case rel => exact ⟨(y137), (wrap64 (x16_1 + 1)), (by first | rfl | (simp; done) | (simp [*]; done)), H', ⟨by have := HK1.out; have := HK2.out; omega⟩, ⟨by (with_reducible repeat (first | apply Kd.R_alloc | apply Kd.R_drewN | apply Kd.R_drew)); exact HO139.out⟩, ⟨by repeat (first | (with_reducible first | exact HB.out | apply below_alloc | apply pw_below_drewN | apply below_drew1 | refine below_set ?_ GE124.out) | exact HB.out)⟩⟩
                          · rw [if_neg c22] at H
                            exact absurd H (by simp)
                  · rw [if_neg c9] at H
                    exact absurd H (by simp)
                · rw [if_neg c8] at H
                  have c8b0 : ((((rd_T30 l0 x16_1).f1).length : Int) == t125) = false := beq_eq_false_iff_ne.mpr c8
                  have c8b1 : ((((rd_T30 l0 x16_1).f1).length : Int) != t125) = true := bne_iff_ne.mpr c8
                  simp only [Option.some.injEq, Prod.mk.injEq] at H
                  obtain ⟨rfl, rfl⟩ := H
                  have p123 : 0 ≤ (x16_1 : Int) := of_decide_eq_true (by first | (with_reducible assumption) | assumption)
                  have q123 : x16_1 < (l0.length : Int) := of_decide_eq_true (by first | (with_reducible assumption) | assumption)
                  obtain ⟨ad123, A123_1, c123_1, e123, hx123_0, hx123_1, hl123_1, hi123_1⟩ := at_T30 HR0.out x16_1 p123 q123
                  cases e123
                  replace hx123_0 := (HB.out.cell (World.block_lt_of_cell? w _ hx123_0)).trans hx123_0
                  replace hx123_1 := (HB.out.cell (World.block_lt_of_cell? w _ hx123_1)).trans hx123_1
                  have HR123_1 := Aside0.mk hi123_1
                  have HC123_1 := Aside0.mk hl123_1
                  clear hi123_1 hl123_1
                  replace p123 := eq_true p123
                  replace q123 := eq_true q123
                  go_wp2_with (first | ((with_reducible refine gate_dst (N := 6) rfl ?_); refine box_event ?hg (N := 6) ?hd (cs := #[.string (⟨#[]⟩ : ByteArray), .slice none 0 0]) (t := 30) ?hr ?_; (case hd => rfl); (case hg => rfl); (case hr => first | (go_simp; done) | (go_simp; rfl)); intro gb124 hg w24 hbox hb; have n0_ := Aside0.mk (Kd.R_below (by (with_reducible repeat (first | apply Kd.R_alloc | apply Kd.R_drewN | apply Kd.R_drew)); exact HO_4.out) hb); have n1_ := Aside0.mk (below_step (by repeat (first | (with_reducible first | exact HB.out | apply below_alloc | apply pw_below_drewN | apply below_drew1) | exact HB.out)) hb); have n2_ := Aside0.mk (hbox); have n3_ := Aside0.mk ((by rw [hg]; exact (below_size (by repeat (first | (with_reducible first | exact HB.out | apply below_alloc | apply pw_below_drewN | apply below_drew1) | exact HB.out))) : w.heap.size ≤ gb124)); have n4_ := Aside0.mk ((by rw [hg]; exact (below_size (by repeat (first | (with_reducible first | exact HB.out | apply below_alloc | apply pw_below_drewN | apply below_drew1) | exact HB.out))) : w.heap.size ≤ gb124)); clear HO_4; clear HB; have HO_4 := n0_; have HB := n1_; have BK124 := n2_; have GW124 := n3_; have GE124 := n4_; clear n0_ n1_ n2_ n3_ n4_; clear hb hbox hg; have hcz25_0 : w24.cell? ⟨gb124, 0, none⟩ = some (.string (⟨#[]⟩ : ByteArray)) := (blk_cell BK124.out 0).trans rfl; have hcz25_1 : w24.cell? ⟨gb124, 1, none⟩ = some (.slice none 0 0) := (blk_cell BK124.out 1).trans rfl; have hfz25_0 := blk_frozen BK124.out 0; have hfz25_1 := blk_frozen BK124.out 1) | ((with_reducible refine gate_callee (f := 27) rfl ?_); refine goesL_ (some 23) rfl rfl Tryd.func27 (by kernel_rfl) rfl #[.string ((rd_T30 l0 x16_1).f0)] rfl (by (try simp only [List.map_toArray, List.map_cons, List.map_nil]); first | done | rfl | (simp only [List.length_drop, List.length_take]; rfl)) ?_; (with_reducible refine (script_takes.calls k1 ((rd_T30 l0 x16_1).f0) t125 true _ A6.out).mono ?_); rintro e w' ⟨rfl, ⟨nd, rfl⟩⟩; refine ⟨_, rfl, ?_⟩))
                  go_ret2
                  exact ⟨by first | rfl | (simp [errW_none, errW_some] <;> rfl) | (simp [*, errW_none, errW_some] <;> rfl), by repeat (first | (with_reducible first | exact HB.out | apply below_alloc | apply pw_below_drewN | apply below_drew1 | refine below_set ?_ GE124.out) | exact HB.out)⟩
              · replace c7 := Bool.eq_false_iff.mpr c7
                subst c7
                have H1 : (some ((⟨#[]⟩ : ByteArray), 211)) = some (r1, r2) := by rw [if_neg (show ¬ (false = true) by decide)] at H; exact H
                clear H
                have H := H1
                clear H1
                simp only [Option.some.injEq, Prod.mk.injEq] at H
                obtain ⟨rfl, rfl⟩ := H
                have p123 : 0 ≤ (x16_1 : Int) := of_decide_eq_true (by first | (with_reducible assumption) | assumption)
                have q123 : x16_1 < (l0.length : Int) := of_decide_eq_true (by first | (with_reducible assumption) | assumption)
                obtain ⟨ad123, A123_1, c123_1, e123, hx123_0, hx123_1, hl123_1, hi123_1⟩ := at_T30 HR0.out x16_1 p123 q123
                cases e123
                replace hx123_0 := (HB.out.cell (World.block_lt_of_cell? w _ hx123_0)).trans hx123_0
                replace hx123_1 := (HB.out.cell (World.block_lt_of_cell? w _ hx123_1)).trans hx123_1
                have HR123_1 := Aside0.mk hi123_1
                have HC123_1 := Aside0.mk hl123_1
                clear hi123_1 hl123_1
                replace p123 := eq_true p123
                replace q123 := eq_true q123
                go_wp2_with (first | ((with_reducible refine gate_dst (N := 6) rfl ?_); refine box_event ?hg (N := 6) ?hd (cs := #[.string (⟨#[]⟩ : ByteArray), .slice none 0 0]) (t := 30) ?hr ?_; (case hd => rfl); (case hg => rfl); (case hr => first | (go_simp; done) | (go_simp; rfl)); intro gb124 hg w26 hbox hb; have n0_ := Aside0.mk (Kd.R_below (by (with_reducible repeat (first | apply Kd.R_alloc | apply Kd.R_drewN | apply Kd.R_drew)); exact HO_4.out) hb); have n1_ := Aside0.mk (below_step (by repeat (first | (with_reducible first | exact HB.out | apply below_alloc | apply pw_below_drewN | apply below_drew1) | exact HB.out)) hb); have n2_ := Aside0.mk (hbox); have n3_ := Aside0.mk ((by rw [hg]; exact (below_size (by repeat (first | (with_reducible first | exact HB.out | apply below_alloc | apply pw_below_drewN | apply below_drew1) | exact HB.out))) : w.heap.size ≤ gb124)); have n4_ := Aside0.mk ((by rw [hg]; exact (below_size (by repeat (first | (with_reducible first | exact HB.out | apply below_alloc | apply pw_below_drewN | apply below_drew1) | exact HB.out))) : w.heap.size ≤ gb124)); clear HO_4; clear HB; have HO_4 := n0_; have HB := n1_; have BK124 := n2_; have GW124 := n3_; have GE124 := n4_; clear n0_ n1_ n2_ n3_ n4_; clear hb hbox hg; have hcz27_0 : w26.cell? ⟨gb124, 0, none⟩ = some (.string (⟨#[]⟩ : ByteArray)) := (blk_cell BK124.out 0).trans rfl; have hcz27_1 : w26.cell? ⟨gb124, 1, none⟩ = some (.slice none 0 0) := (blk_cell BK124.out 1).trans rfl; have hfz27_0 := blk_frozen BK124.out 0; have hfz27_1 := blk_frozen BK124.out 1) | ((with_reducible refine gate_callee (f := 27) rfl ?_); refine goesL_ (some 23) rfl rfl Tryd.func27 (by kernel_rfl) rfl #[.string ((rd_T30 l0 x16_1).f0)] rfl (by (try simp only [List.map_toArray, List.map_cons, List.map_nil]); first | done | rfl | (simp only [List.length_drop, List.length_take]; rfl)) ?_; (with_reducible refine (script_takes.calls k1 ((rd_T30 l0 x16_1).f0) t125 false _ A6.out).mono ?_); rintro e w' ⟨rfl, ⟨nd, rfl⟩⟩; refine ⟨_, rfl, ?_⟩))
                go_ret2
                exact ⟨by first | rfl | (simp [errW_none, errW_some] <;> rfl) | (simp [*, errW_none, errW_some] <;> rfl), by repeat (first | (with_reducible first | exact HB.out | apply below_alloc | apply pw_below_drewN | apply below_drew1 | refine below_set ?_ GE124.out) | exact HB.out)⟩
            · rw [if_neg c5] at H
              exact absurd H (by simp)
          · rw [if_neg c4] at H
            exact absurd H (by simp)
        · rw [if_neg c3] at H
          have c3b0 : decide (x16_1 < (l0.length : Int)) = false := decide_eq_false c3
          clear c3
          by_cases c28 : (x4_1.length : Int) > 65536
          · rw [if_pos c28] at H
            have c28b0 : decide (65536 < (x4_1.length : Int)) = true := decide_eq_true c28
            have c28b1 : decide (65536 < x4_1.length) = true := decide_eq_true (by omega)
            clear c28
            simp only [Option.some.injEq, Prod.mk.injEq] at H
            obtain ⟨rfl, rfl⟩ := H
            obtain ⟨Ao29, co29, eo29⟩ := Kd.R_slice HO_4.out
            subst eo29
            go_wp2
            go_ret2
            exact ⟨by first | rfl | (simp [errW_none, errW_some] <;> rfl) | (simp [*, errW_none, errW_some] <;> rfl), by repeat (first | (with_reducible first | exact HB.out | apply below_alloc | apply pw_below_drewN | apply below_drew1) | exact HB.out)⟩
          · rw [if_neg c28] at H
            have c28b0 : decide (65536 < (x4_1.length : Int)) = false := decide_eq_false c28
            have c28b1 : decide (65536 < x4_1.length) = false := decide_eq_false (by omega)
            clear c28
            simp only [Option.some.injEq, Prod.mk.injEq] at H
            obtain ⟨rfl, rfl⟩ := H
            obtain ⟨Ao30, co30, eo30⟩ := Kd.R_slice HO_4.out
            subst eo30
            have hcv31 := own_string (P := Tryd.prog) Tryd.underlying47 Tryd.underlying5 Tryd.underlying9 (Kd.own_of_R HO_4.out)
            go_wp2
            go_ret2
            exact ⟨by first | rfl | (simp [errW_none, errW_some] <;> rfl) | (simp [*, errW_none, errW_some] <;> rfl), by repeat (first | (with_reducible first | exact HB.out | apply below_alloc | apply pw_below_drewN | apply below_drew1) | exact HB.out)⟩

end Go.Proofs.YtlfoaaeelcmhiaaDoor.G
end

section
/- A row of bytes that '[]byte(s)' made: it bears a conversion's mark behind its cells, and is appended to like any other. -/
namespace Go.Proofs.YtlfoaaeelcmhiaaDoor.G
open Go.RowKit Go.Proofs.YtlfoaaeelcmhiaaDoorW.PrintWords Go.Proofs.YtlfoaaeelcmhiaaDoorW.PrintLast Go.Proofs.YtlfoaaeelcmhiaaDoorW.PrintMore
set_option linter.unusedVariables false
section
variable {P : Program}
/-- Cells are stored into a row whose frozen range ends ahead of them, or begins behind the row. -/
theorem store_mark (g o : Nat) (t : TypeId) (fz : Nat × Nat) : ∀ (vs : List Value) (i : Nat) (cur : Array Value) (w : World), w.heap[g]? = some (.cells cur t fz) → (fz.2 ≤ o + i ∨ cur.size ≤ fz.1) → o + i + vs.length ≤ cur.size → (∀ v ∈ vs, v.oneCell' = true) →
    (storeCells ⟨g, o, none⟩ vs i).run P w = .ok () (w.setRow g (cur.toList.take (o + i) ++ vs ++ cur.toList.drop (o + i + vs.length)).toArray)
  | [], i, cur, w, hg, _, _, _ => by
    simp only [storeCells, List.append_nil, List.length_nil, Nat.add_zero, List.take_append_drop, Array.toArray_toList]
    rw [setRow_self w g cur t fz hg]
    rfl
  | v :: rest, i, cur, w, hg, hfz, hl, h1 => by
    have hi : o + i < cur.size := by simp at hl; omega
    have hadd : (⟨g, o, none⟩ : Addr).add i = ⟨g, o + i, none⟩ := by unfold Addr.add; split <;> simp_all
    have hcell : w.cell? ⟨g, o + i, none⟩ = some cur[o + i] := by simp [World.cell?, hg, hi]
    have hfro : w.frozen? ⟨g, o + i, none⟩ = false := by
      obtain ⟨lo, hi'⟩ := fz
      simp only [World.frozen?, hg, Bool.and_eq_false_iff, decide_eq_false_iff_not]
      simp only at hfz
      omega
    have hst : (store ((⟨g, o, none⟩ : Addr).add i) v).run P w = .ok () (w.setRow g (cur.setIfInBounds (o + i) v)) := by
      rw [hadd, run_store P w _ v _ (h1 v (by simp)), hcell]
      simp [hfro, setCell_eq_setRow w g (o + i) cur t fz v hg]
    have ih := store_mark g o t fz rest (i + 1) (cur.setIfInBounds (o + i) v) (w.setRow g (cur.setIfInBounds (o + i) v)) (setRow_heap w g cur _ t _ hg) (by simp; omega) (by simp at hl ⊢; omega) (fun x hx => h1 x (by simp [hx]))
    simp only [storeCells, Sem.run_bind, hst, Result.andThen_ok, ih, setRow_setRow]
    congr 3
    have e := list_seg_step cur.toList (o + i) v rest (by simp at hl ⊢; omega)
    simpa [Array.toList_setIfInBounds, Nat.add_assoc] using e
end
/-- A row of these bytes, the call's own, marked or not. -/
def MarkRow (w : World) (base : Nat) (v : Value) (l : List UInt8) : Prop :=
  ∃ g cap cur fz, v = .slice (some ⟨g, 0, none⟩) l.length cap ∧ base ≤ g ∧ w.heap[g]? = some (.cells cur 5 fz) ∧ (fz.2 ≤ l.length ∨ cur.size ≤ fz.1) ∧ l.length ≤ cap ∧ cap ≤ maxLen ∧ cur.size = cap ∧ cur.toList.take l.length = Lib.byteCells l
theorem MarkRow.step {w w' : World} {base : Nat} {v : Value} {l : List UInt8} (h : MarkRow w base v l) (hb : Below w.heap.size w w') : MarkRow w' base v l := by
  obtain ⟨g, cap, cur, fz, e, hbg, hg, rest⟩ := h
  exact ⟨g, cap, cur, fz, e, hbg, (hb.block g (Array.getElem?_eq_some_iff.1 hg).1).trans hg, rest⟩
theorem MarkRow.lower {w : World} {base base' : Nat} {v : Value} {l : List UInt8} (h : MarkRow w base v l) (hb : base' ≤ base) : MarkRow w base' v l := by
  obtain ⟨g, cap, cur, fz, e, hbg, rest⟩ := h
  exact ⟨g, cap, cur, fz, e, Nat.le_trans hb hbg, rest⟩
theorem byteCells_length (l : List UInt8) : (Lib.byteCells l).length = l.length := by simp [Lib.byteCells]
theorem byteCells_append (a b : List UInt8) : Lib.byteCells (a ++ b) = Lib.byteCells a ++ Lib.byteCells b := by simp [Lib.byteCells]
theorem byteCells_one (l : List UInt8) : ∀ v ∈ Lib.byteCells l, v.oneCell' = true := by
  intro v hv
  simp only [Lib.byteCells, List.mem_map] at hv
  obtain ⟨b, _, rfl⟩ := hv
  rfl
theorem MarkRow.cells {w : World} {base : Nat} {g cap : Nat} {l : List UInt8} (h : MarkRow w base (.slice (some ⟨g, 0, none⟩) l.length cap) l) : ∀ j u, (Lib.byteCells l)[j]? = some u → w.cell? ((⟨g, 0, none⟩ : Addr).add j) = some u := by
  intro j u hu
  obtain ⟨g', cap', cur, fz, e, hbg, hg, hfz, h1, h2, h3, h4⟩ := h
  injection e with e1 e2 e3
  injection e1 with e1
  injection e1 with e1
  subst e1 e3
  have hadd : (⟨g, 0, none⟩ : Addr).add j = ⟨g, j, none⟩ := by unfold Addr.add; split <;> simp_all
  rw [hadd, cell_of_row w g j cur 5 fz hg]
  rw [← h4, List.getElem?_take] at hu
  split at hu
  · simpa using hu
  · cases hu
theorem MarkRow.reads {w : World} {base : Nat} {v : Value} {l : List UInt8} (h : MarkRow w base v l) : ∃ A c, v = .slice A l.length c ∧ ReadsInt w .u8 A l.length (nums l) := by
  have h' := h
  obtain ⟨g, cap, cur, fz, rfl, hbg, hg, hfz, h1, h2, h3, h4⟩ := h
  refine ⟨_, _, rfl, by simp [nums], by unfold maxLen at h2; omega, fun _ => ⟨_, rfl, fun j hj => ?_⟩⟩
  refine MarkRow.cells h' j _ ?_
  simp [Lib.byteCells, nums, hj]
theorem strOf_nums (l : List UInt8) : strOfNums (nums l) = ⟨l.toArray⟩ := by
  simp [strOfNums, nums, Function.comp_def]
/-- '[]byte(s)'. -/
theorem size_list (s : ByteArray) : s.data.toList.length = s.size := by rw [Array.length_toList]; rfl
theorem mark_made (w : World) (s : ByteArray) (hs : s.size ≤ maxLen) : MarkRow (Lib.bytesWorld w 5 s) w.heap.size (.slice (some ⟨w.heap.size, 0, none⟩) s.size (grownCap w s.size 0 5)) s.data.toList ∧ Below w.heap.size w (Lib.bytesWorld w 5 s) := by
  refine ⟨⟨w.heap.size, grownCap w s.size 0 5, Lib.bytesCells w 5 s, _, ?_, Nat.le_refl _, Lib.bytesWorld_at_new w 5 s, .inr (Nat.le_refl _), ?_, ?_, ?_, ?_⟩, ?_⟩
  · rw [size_list]
  · rw [size_list]; exact grownCap_ge w s.size 0 5
  · exact grownCap_le_maxLen w s.size 0 5 hs
  · have := grownCap_ge w s.size 0 5
    have h2 : s.data.size = s.size := rfl
    simp only [Lib.bytesCells, Array.size_append, Array.size_map, Array.size_replicate, h2]
    omega
  · have : s.data.toList.length = (s.data.map fun b => Value.int .u8 b.toNat).toList.length := by simp
    rw [show (Lib.bytesCells w 5 s).toList = (s.data.map fun b => Value.int .u8 b.toNat).toList ++ (Array.replicate (grownCap w s.size 0 5 - s.size) (Value.int .u8 0)).toList from by simp [Lib.bytesCells], this, List.take_left]
    simp [Lib.byteCells]
  · exact ⟨rfl, rfl, rfl, by rw [Lib.bytesWorld_size]; omega, fun j hj => Lib.bytesWorld_at_old w 5 s j hj⟩
section
variable {P : Program}
theorem mark_append_slice (w : World) (t ty : TypeId) (i : TypeInfo) (ht : P.underlying t = some (.slice 5)) (hi : P.info? 5 = some i) (hz : i.zero = some (.int .u8 0)) (hs : i.size = 1) (hby : i.bytes = 1)
    (base : Nat) (v : Value) (l : List UInt8) (h : MarkRow w base v l) (a : Addr) (m c : Nat) (news : List UInt8) (hm : news.length = m) (hnews : ∀ j u, (Lib.byteCells news)[j]? = some u → w.cell? (a.add j) = some u)
    (hb : l.length + m ≤ 140737488355328) (hbase : base ≤ w.heap.size) :
    ∃ v' w', (Builtin.append_ #[t, t] ty #[v, .slice (some a) m c]).run P w = .ok v' w' ∧ MarkRow w' base v' (l ++ news) ∧ Below base w w' := by
  have h' := h
  obtain ⟨g, cap, cur, fz, rfl, hbg, hg, hfz, h1, h2, h3, h4⟩ := h
  have hcells := MarkRow.cells h'
  by_cases hroom : l.length + m ≤ cap
  · have hst := store_mark (P := P) g l.length 5 fz (Lib.byteCells news) 0 cur w hg (by simpa using hfz) (by rw [byteCells_length, hm]; omega) (byteCells_one news)
    simp only [Nat.add_zero] at hst
    have hr : (Builtin.append_ #[t, t] ty #[.slice (some ⟨g, 0, none⟩) l.length cap, .slice (some a) m c]).run P w = .ok (.slice (some ⟨g, 0, none⟩) (l.length + m) cap) (w.setRow g (cur.toList.take l.length ++ (Lib.byteCells news) ++ cur.toList.drop (l.length + ((Lib.byteCells news)).length)).toArray) := by
      have hf := run_firstCells_some (P := P) w 1 m a m c (Lib.byteCells news) (by rw [byteCells_length, hm, Nat.mul_one]) hnews
      simp [Builtin.append_, run_underlying ht, sizeOf, typeInfo, hi, hs, Builtin.lenOf, hroom, hf, Addr.add_lit, hst]
    refine ⟨_, _, hr, ⟨g, cap, _, fz, by rw [List.length_append, hm], hbg, setRow_heap w g cur _ 5 _ hg, ?_, by rw [List.length_append, hm]; exact hroom, h2, ?_, ?_⟩, ?_⟩
    · rw [List.length_append]
      simp only [List.size_toArray, List.length_append, List.length_take, List.length_drop, Array.length_toList, byteCells_length, hm]
      omega
    · simp only [List.size_toArray, List.length_append, List.length_take, List.length_drop, Array.length_toList, byteCells_length, hm]
      omega
    · rw [h4, List.length_append, byteCells_append]
      show List.take _ (_ ++ _ ++ _) = _
      rw [← byteCells_length l, ← byteCells_length news, ← List.length_append, List.take_left]
    · exact ⟨rfl, rfl, rfl, by simp [World.setRow], fun k hk => setRow_other w g k _ (by omega)⟩
  · have hge := grownCap_ge w (l.length + m) cap 5
    have hcm2 : grownCap w (l.length + m) cap 5 ≤ maxLen := grownCap_le_maxLen w (l.length + m) cap 5 (by unfold maxLen; omega)
    have hfitc : Builtin.nextslicecap (l.length + m) cap * i.bytes ≤ 281474976710656 := by rw [hby]; exact growslice_fits (by omega) (by omega)
    have hr := run_append_grow (P := P) w t ty 5 i (.int .u8 0) ht hi hz ⟨g, 0, none⟩ l.length cap (Lib.byteCells l) (by rw [hs, byteCells_length, Nat.mul_one]) hcells a m c (Lib.byteCells news) (by rw [hs, byteCells_length, hm, Nat.mul_one]) hnews (by omega) (by omega) hfitc
    refine ⟨_, _, hr, ⟨w.heap.size, _, _, (0, 0), by rw [List.length_append, hm], hbase, heap_alloc_new w.drew _, .inl (Nat.zero_le _), by rw [List.length_append, hm]; exact hge, hcm2, ?_, ?_⟩, ?_⟩
    · have hz1 : (Value.int IntKind.u8 0).cells.size = 1 := rfl
      simp only [Array.size_append, List.size_toArray, size_zeroCells, hz1, byteCells_length, byteCells_length, hm]
      omega
    · simp only [Array.toList_append, List.append_assoc]
      rw [← List.append_assoc, List.length_append, byteCells_append]
      show List.take _ (_ ++ _ ++ _) = _
      rw [← byteCells_length l, ← byteCells_length news, ← List.length_append, List.take_left]
    · exact ⟨rfl, rfl, rfl, by simp, fun k hk => Go.heap_alloc_old w.drew _ (Nat.lt_of_lt_of_le hk hbase)⟩
theorem mark_append_string (w : World) (t u ty : TypeId) (i : TypeInfo) (ht : P.underlying t = some (.slice 5)) (hu : P.underlying u = some .string) (hi : P.info? 5 = some i) (hz : i.zero = some (.int .u8 0)) (hs : i.size = 1) (hby : i.bytes = 1)
    (base : Nat) (v : Value) (l : List UInt8) (h : MarkRow w base v l) (s : ByteArray)
    (hb : l.length + s.size ≤ 140737488355328) (hbase : base ≤ w.heap.size) :
    ∃ v' w', (Builtin.append_ #[t, u] ty #[v, .string s]).run P w = .ok v' w' ∧ MarkRow w' base v' (l ++ s.data.toList) ∧ Below base w w' := by
  have hcs : Lib.strCells s = Lib.byteCells s.data.toList := by simp [Lib.strCells, Lib.byteCells]
  have h' := h
  obtain ⟨g, cap, cur, fz, rfl, hbg, hg, hfz, h1, h2, h3, h4⟩ := h
  have hcells := MarkRow.cells h'
  by_cases hroom : l.length + s.size ≤ cap
  · have hst := store_mark (P := P) g l.length 5 fz (Lib.strCells s) 0 cur w hg (by simpa using hfz) (by rw [Lib.strCells_length]; omega) (Lib.strCells_oneCell s)
    simp only [Nat.add_zero] at hst
    have hr : (Builtin.append_ #[t, u] ty #[.slice (some ⟨g, 0, none⟩) l.length cap, .string s]).run P w = .ok (.slice (some ⟨g, 0, none⟩) (l.length + s.size) cap) (w.setRow g (cur.toList.take l.length ++ (Lib.strCells s) ++ cur.toList.drop (l.length + ((Lib.strCells s)).length)).toArray) := by
      have hf := Lib.run_firstCells_string (P := P) w 1 s
      simp [Builtin.append_, run_underlying ht, run_underlying hu, sizeOf, typeInfo, hi, hs, Builtin.lenOf, hroom, hf, Addr.add_lit, hst]
    refine ⟨_, _, hr, ⟨g, cap, _, fz, by rw [List.length_append, show s.data.toList.length = s.size from size_list s], hbg, setRow_heap w g cur _ 5 _ hg, ?_, by rw [List.length_append, show s.data.toList.length = s.size from size_list s]; exact hroom, h2, ?_, ?_⟩, ?_⟩
    · rw [List.length_append]
      simp only [List.size_toArray, List.length_append, List.length_take, List.length_drop, Array.length_toList, Lib.strCells_length]
      omega
    · simp only [List.size_toArray, List.length_append, List.length_take, List.length_drop, Array.length_toList, Lib.strCells_length]
      omega
    · rw [h4, List.length_append, byteCells_append, hcs]
      show List.take _ (_ ++ _ ++ _) = _
      rw [← byteCells_length l, ← byteCells_length s.data.toList, ← List.length_append, List.take_left]
    · exact ⟨rfl, rfl, rfl, by simp [World.setRow], fun k hk => setRow_other w g k _ (by omega)⟩
  · have hge := grownCap_ge w (l.length + s.size) cap 5
    have hcm2 : grownCap w (l.length + s.size) cap 5 ≤ maxLen := grownCap_le_maxLen w (l.length + s.size) cap 5 (by unfold maxLen; omega)
    have hfitc : Builtin.nextslicecap (l.length + s.size) cap * i.bytes ≤ 281474976710656 := by rw [hby]; exact growslice_fits (by omega) (by omega)
    have hr := Lib.run_append_grow_string (P := P) w t u ty 5 i (.int .u8 0) ht hu hi hz ⟨g, 0, none⟩ l.length cap (Lib.byteCells l) (by rw [hs, byteCells_length, Nat.mul_one]) hcells s (by omega) (by omega) hfitc
    refine ⟨_, _, hr, ⟨w.heap.size, _, _, (0, 0), by rw [List.length_append, show s.data.toList.length = s.size from size_list s], hbase, heap_alloc_new w.drew _, .inl (Nat.zero_le _), by rw [List.length_append, show s.data.toList.length = s.size from size_list s]; exact hge, hcm2, ?_, ?_⟩, ?_⟩
    · have hz1 : (Value.int IntKind.u8 0).cells.size = 1 := rfl
      simp only [Array.size_append, List.size_toArray, size_zeroCells, hz1, byteCells_length, Lib.strCells_length]
      omega
    · simp only [Array.toList_append, List.append_assoc]
      rw [← List.append_assoc, List.length_append, byteCells_append, hcs]
      show List.take _ (_ ++ _ ++ _) = _
      rw [← byteCells_length l, ← byteCells_length s.data.toList, ← List.length_append, List.take_left]
    · exact ⟨rfl, rfl, rfl, by simp, fun k hk => Go.heap_alloc_old w.drew _ (Nat.lt_of_lt_of_le hk hbase)⟩
end
end Go.Proofs.YtlfoaaeelcmhiaaDoor.G
end

section
/- The contract of the reference's pairs, by hand: it begins with []byte(s). -/
namespace Go.Proofs.YtlfoaaeelcmhiaaDoor.G
open Go.RowKit Go.Proofs.YtlfoaaeelcmhiaaDoorW.PrintWords Go.Proofs.YtlfoaaeelcmhiaaDoorW.PrintLast Go.Proofs.YtlfoaaeelcmhiaaDoorW.PrintMore
open Go.Proofs.YtlfoaaeelcmhiaaDoor.Pure (dstr digits_f)
set_option linter.unusedVariables false
section
variable {P : Program} {ops : Array Oper} {rest : List Oper} {o : Oper} {a : Act} {Q : Exit → Act → World → Prop}
theorem wpList_mark_slice {w : World} (hgd : o.guard = none) (s x : Operand) (t : TypeId) (ho : o.op = .call { callee := .builtin .append, args := #[s, x], argTypes := #[t, t] })
    (ht : P.underlying t = some (.slice 5)) (hinfo : (P.info? 5).map (fun i => (i.zero, i.size, i.bytes)) = some (some (.int .u8 0), 1, 1))
    (base : Nat) (v : Value) (l : List UInt8) (hs : a.eval s = v) (h : MarkRow w base v l) (ad : Addr) (m c : Nat) (news : List UInt8) (hx : a.eval x = .slice (some ad) m c) (hm : news.length = m)
    (hnews : ∀ j u, (Lib.byteCells news)[j]? = some u → w.cell? (ad.add j) = some u) (hb : l.length + m ≤ 140737488355328) (hbase : base ≤ w.heap.size)
    (hh : ∀ v' w', MarkRow w' base v' (l ++ news) → Below base w w' → wpList P ops Q rest (a.put o.dst v') w') : wpList P ops Q (o :: rest) a w := by
  obtain ⟨i, hi, hz, hsz, hby⟩ := info_parts hinfo
  refine wpList_plain hgd fun K hK => ?_
  obtain ⟨v', w', hr, h2, h3⟩ := mark_append_slice (P := P) w t o.type i ht hi hz hsz hby base v l h ad m c news hm hnews hb hbase
  unfold Oper.wp execOp
  simp only [ho, resolve, invoke, builtin, Sem.run_bind, Sem.run_pure, Result.andThen_ok, List.map_toArray, List.map_cons, List.map_nil, hs, hx, hr]
  exact hK _ _ (hh v' w' h2 h3)
theorem wpList_mark_string {w : World} (hgd : o.guard = none) (s x : Operand) (t u : TypeId) (ho : o.op = .call { callee := .builtin .append, args := #[s, x], argTypes := #[t, u] })
    (ht : P.underlying t = some (.slice 5)) (hu : P.underlying u = some .string) (hinfo : (P.info? 5).map (fun i => (i.zero, i.size, i.bytes)) = some (some (.int .u8 0), 1, 1))
    (base : Nat) (v : Value) (l : List UInt8) (hs : a.eval s = v) (h : MarkRow w base v l) (str : ByteArray) (hx : a.eval x = .string str)
    (hb : l.length + str.size ≤ 140737488355328) (hbase : base ≤ w.heap.size)
    (hh : ∀ v' w', MarkRow w' base v' (l ++ str.data.toList) → Below base w w' → wpList P ops Q rest (a.put o.dst v') w') : wpList P ops Q (o :: rest) a w := by
  obtain ⟨i, hi, hz, hsz, hby⟩ := info_parts hinfo
  refine wpList_plain hgd fun K hK => ?_
  obtain ⟨v', w', hr, h2, h3⟩ := mark_append_string (P := P) w t u o.type i ht hu hi hz hsz hby base v l h str hb hbase
  unfold Oper.wp execOp
  simp only [ho, resolve, invoke, builtin, Sem.run_bind, Sem.run_pure, Result.andThen_ok, List.map_toArray, List.map_cons, List.map_nil, hs, hx, hr]
  exact hK _ _ (hh v' w' h2 h3)
end
def pairBytes (x : S50) : List UInt8 := 32 :: Lib.decDigits x.f0.toNat ++ 32 :: Lib.decDigits x.f1.toNat
def pairsBytes (l : List S50) : List UInt8 := Lib.decDigits l.length ++ l.flatMap pairBytes
def pairsGood (l : List S50) : Prop := l.length ≤ 1000000000 ∧ ∀ x ∈ l, (0 ≤ x.f0 ∧ x.f0 ≤ 18446744073709551615) ∧ 0 ≤ x.f1 ∧ x.f1 ≤ 18446744073709551615
instance (l : List S50) : Decidable (pairsGood l) := by unfold pairsGood; infer_instance
def inclineref21_pairs.f (l0 : List S50) : Option ByteArray := if pairsGood l0 then some ⟨(pairsBytes l0).toArray⟩ else none
theorem nDigits_lt : ∀ (k u : Nat), u < 10 ^ (k + 1) → Lib.nDigits u ≤ k + 1
  | 0, u, h => by rw [Lib.nDigits_small (by simpa using h)]; omega
  | k + 1, u, h => by
    by_cases hs : u < 10
    · rw [Lib.nDigits_small hs]; omega
    · rw [Lib.nDigits_big hs]
      have := nDigits_lt k (u / 10) (by rw [Nat.pow_succ] at h; omega)
      omega
theorem nDigits_le {u : Nat} (h : u < 18446744073709551616) : Lib.nDigits u ≤ 20 := nDigits_lt 19 u (by omega)
theorem decDigits_le {u : Nat} (h : u < 18446744073709551616) : (Lib.decDigits u).length ≤ 20 := by rw [Lib.decDigits_length]; exact nDigits_le h
theorem pairs_len (l : List S50) (h : pairsGood l) (i : Nat) : ((l.take i).flatMap pairBytes).length ≤ 42 * i := by
  induction i with
  | zero => simp
  | succ i ih =>
    rcases Nat.lt_or_ge i l.length with hi | hi
    · rw [List.take_succ_eq_append_getElem hi, List.flatMap_append, List.length_append]
      have hx := h.2 _ (List.getElem_mem hi)
      have h1 := decDigits_le (u := l[i].f0.toNat) (by omega)
      have h2 := decDigits_le (u := l[i].f1.toNat) (by omega)
      have h3 : (List.flatMap pairBytes [l[i]]).length = 1 + (Lib.decDigits l[i].f0.toNat).length + (1 + (Lib.decDigits l[i].f1.toNat).length) := by
        simp [pairBytes]
        omega
      omega
    · rw [List.take_of_length_le (by omega)] at ih ⊢
      omega
set_option maxHeartbeats 4000000 in
set_option maxRecDepth 100000 in
theorem inclineref21_pairs.calls (A0 : Option Addr) (c0 : Nat) (l0 : List S50) (r : ByteArray) (w : World) (hr0 : Kd.C k50 w A0 l0.length l0) (hc0 : l0.length ≤ c0) (h : inclineref21_pairs.f l0 = some r) :
    Calls Tryd.prog 35 #[.slice A0 l0.length c0] w fun e w' => e = .returned (.string r) ∧ Below w.heap.size w w' := by
  unfold inclineref21_pairs.f at h
  by_cases hc : pairsGood l0
  · rw [if_pos hc] at h
    obtain rfl := Option.some.inj h
    have hlen := hc.1
    have HG := Aside0.mk hc
    have HC := Aside0.mk hr0
    have hu1 : IntKind.u64.wrap (l0.length : Int) = (l0.length : Int) := by rw [IntKind.wrap_u64]; omega
    have hd0 := Aside0.mk (digits_f (l0.length : Int) (by omega) (by omega) 20 (by omega))
    have hsz0 : (dstr (l0.length : Int).toNat).size ≤ 20 := by
      have := decDigits_le (u := l0.length) (by omega)
      show (Lib.decDigits _).toArray.size ≤ 20
      simpa using this
    have hcv : ∀ u : World, (convert 9 47 (.string (dstr (l0.length : Int).toNat))).run Tryd.prog u = .ok (.slice (some ⟨u.heap.size, 0, none⟩) (dstr (l0.length : Int).toNat).size (grownCap u (dstr (l0.length : Int).toNat).size 0 5)) (Lib.bytesWorld u 5 (dstr (l0.length : Int).toNat)) :=
      fun u => Lib.run_convert_string_bytes u 9 47 5 _ Tryd.underlying9 Tryd.underlying47 Tryd.underlying5
    have hmk := fun u : World => mark_made u (dstr (l0.length : Int).toNat) (by unfold maxLen; omega)
    have HMK := Aside0.mk hmk
    have hds : (dstr (l0.length : Int).toNat).data.toList = Lib.decDigits l0.length := by simp [dstr]
    have HDS := Aside0.mk hds
    have HSZ := Aside0.mk hsz0
    clear hr0 h hc hmk hds hsz0
    generalize dstr (l0.length : Int).toNat = ds at *
    go_enter Tryd.func35, Tryd.ntmps35
    go_wp2_with (first
      | (go_at_call 30; refine (inclineref21_digits.calls 20 _ _ _ hd0.out).mono ?_; rintro e w1 ⟨rfl, hb⟩; have hb1 := Aside0.mk hb; clear hb; obtain ⟨hM, hbM⟩ := HMK.out w1; have HM := Aside0.mk (hM.lower (below_size hb1.out)); have HBM := Aside0.mk (below_step hb1.out hbM); clear hM hbM))
    go_loopg [3, 4] l0.length (fun kq v3 v4 w' => ∃ (i : Nat) (bs : List UInt8), v4 = .int .i64 (i : Int) ∧ Aside0 (kq + i = l0.length) ∧ Aside0 (bs = Lib.decDigits l0.length ++ (l0.take i).flatMap pairBytes) ∧ Aside0 (MarkRow w' w.heap.size v3 bs) ∧ Aside0 (Below w.heap.size w w'))
    case atStart => exact ⟨0, ds.data.toList, rfl, ⟨by omega⟩, ⟨by rw [HDS.out]; simp⟩, HM, HBM⟩
    case round =>
      obtain ⟨i, bs, rfl, HK, HE, HR, HB⟩ := hrel
      have hk := HK.out
      clear HM HBM HMK
      cases gk with
      | zero =>
        obtain ⟨A, c, rfl, hread⟩ := HR.out.reads
        have hst' := string_of_reads (P := Tryd.prog) (src := 47) (dst := 9) (c := c) Tryd.underlying47 Tryd.underlying5 Tryd.underlying9 hread
        rw [strOf_nums] at hst'
        have hlt : decide ((i : Int) < (l0.length : Int)) = false := decide_eq_false (by omega)
        have hltn : decide (i < l0.length) = false := decide_eq_false (by omega)
        have hti : l0.take i = l0 := List.take_of_length_le (by omega)
        have hbs := HE.out
        rw [hti] at hbs
        have HBS : Aside0 (bs = pairsBytes l0) := ⟨hbs⟩
        clear hread hk hti hbs
        go_wp2
        go_ret
        exact ⟨by rw [HBS.out]; rfl, HB.out⟩
      | succ k1 =>
        have hlt : decide ((i : Int) < (l0.length : Int)) = true := decide_eq_true (by omega)
        have hltn : decide (i < l0.length) = true := decide_eq_true (by omega)
        have hpl := pairs_len l0 HG.out i
        have hdl := decDigits_le (u := l0.length) (by omega)
        have hg := HG.out.2 (l0[i]'(by omega)) (List.getElem_mem _)
        have hrd : rd_T50 l0 (i : Int) = l0[i]'(by omega) := by
          unfold rd_T50
          rw [Int.toNat_natCast, List.getD_eq_getElem?_getD, List.getElem?_eq_getElem (by omega)]
          rfl
        have hd1 := decDigits_le (u := (l0[i]'(by omega)).f0.toNat) (by omega)
        have hd2 := decDigits_le (u := (l0[i]'(by omega)).f1.toNat) (by omega)
        have hf0 := Aside0.mk (digits_f (l0[i]'(by omega)).f0 hg.1.1 hg.1.2 20 (by omega))
        have hf1 := Aside0.mk (digits_f (l0[i]'(by omega)).f1 hg.2.1 hg.2.2 20 (by omega))
        obtain ⟨ad, e, _, _⟩ := at_T50 HC.out (i : Int) (by omega) (by omega)
        subst e
        have hnext : (l0.take (i + 1)).flatMap pairBytes = (l0.take i).flatMap pairBytes ++ pairBytes (l0[i]'(by omega)) := by
          rw [List.take_succ_eq_append_getElem (by omega), List.flatMap_append]
          simp
        have hbl : bs.length ≤ 20 + 42 * 1000000000 := by
          have := HE.out
          rw [this, List.length_append]
          omega
        have HBL := Aside0.mk hbl
        generalize l0[i]'(by omega) = x at *
        have hs1 : (dstr x.f0.toNat).size ≤ 20 := by show (Lib.decDigits _).toArray.size ≤ 20; simpa using hd1
        have hs2 : (dstr x.f1.toNat).size ≤ 20 := by show (Lib.decDigits _).toArray.size ≤ 20; simpa using hd2
        have ht1 : (dstr x.f0.toNat).data.toList = Lib.decDigits x.f0.toNat := by simp [dstr]
        have ht2 : (dstr x.f1.toNat).data.toList = Lib.decDigits x.f1.toNat := by simp [dstr]
        generalize dstr x.f0.toNat = s1 at *
        generalize dstr x.f1.toNat = s2 at *
        have HS1 := Aside0.mk hs1
        have HS2 := Aside0.mk hs2
        have HNX : Aside0 (bs ++ [32] ++ s1.data.toList ++ [32] ++ s2.data.toList = Lib.decDigits l0.length ++ (l0.take (i + 1)).flatMap pairBytes) := ⟨by
          rw [hnext, ht1, ht2, HE.out]
          simp [pairBytes]⟩
        have p0 : (0 : Int) ≤ (i : Int) := by omega
        have p1 : (i : Int) < (l0.length : Int) := by omega
        have q0 := eq_true p0
        have q1 := eq_true p1
        have hw1 : IntKind.i64.wrap ((i : Int) + 1) = ((i + 1 : Nat) : Int) := by rw [IntKind.wrap_i64]; omega
        have e1 : s1.data.toList.length = s1.size := size_list s1
        have e2 : s2.data.toList.length = s2.size := size_list s2
        have E1 := Aside0.mk e1
        have E2 := Aside0.mk e2
        clear hpl hdl hg hd1 hd2 hnext hbl hs1 hs2 ht1 ht2 p0 p1 e1 e2
        go_wp2_with (first
          | (at_builtin; go_must (first
              | (refine wpList_mark_slice rfl (.tmp 16) (.tmp 17) 47 rfl Tryd.underlying47 info5 w.heap.size _ bs rfl (HR.out.step (below_alloc (Below.refl _ _) _)) _ _ _ [32] rfl rfl (cell_one_new _ _ _) (by have := HBL.out; omega) (below_size (below_alloc HB.out _)) ?_; intro v5 w5 hM hb; have HM5 := Aside0.mk hM; have HB5 := Aside0.mk ((below_alloc HB.out _).trans hb); clear hM hb; obtain ⟨ad', ea, hx0, hx1⟩ := at_T50 (Kd.C_below HC.out HB5.out) (i : Int) (by omega) (by omega); cases ea; rw [hrd, Int.toNat_natCast] at hx0)
              | (refine wpList_mark_string rfl (.tmp 19) (.tmp 25) 47 9 rfl Tryd.underlying47 Tryd.underlying9 info5 w.heap.size _ (bs ++ [32]) rfl HM6.out s1 rfl (by have := HBL.out; have := HS1.out; simp only [List.length_append, List.length_cons, List.length_nil]; omega) (below_size HB6.out) ?_; intro v7 w7 hM hb; have HM7 := Aside0.mk hM; have HB7 := Aside0.mk (HB6.out.trans hb); clear hM hb)
              | (refine wpList_mark_slice rfl (.tmp 27) (.tmp 28) 47 rfl Tryd.underlying47 info5 w.heap.size _ (bs ++ [32] ++ s1.data.toList) rfl (HM7.out.step (below_alloc (Below.refl _ _) _)) _ _ _ [32] rfl rfl (cell_one_new _ _ _) (by have := HBL.out; have := HS1.out; have := E1.out; simp only [List.length_append, List.length_cons, List.length_nil]; omega) (below_size (below_alloc HB7.out _)) ?_; intro v8 w8 hM hb; have HM8 := Aside0.mk hM; have HB8 := Aside0.mk ((below_alloc HB7.out _).trans hb); clear hM hb; obtain ⟨ad', ea, hx2, hx3⟩ := at_T50 (Kd.C_below HC.out HB8.out) (i : Int) (by omega) (by omega); cases ea; rw [hrd, Int.toNat_natCast] at hx3)
              | (refine wpList_mark_string rfl (.tmp 30) (.tmp 36) 47 9 rfl Tryd.underlying47 Tryd.underlying9 info5 w.heap.size _ (bs ++ [32] ++ s1.data.toList ++ [32]) rfl HM9.out s2 rfl (by have := HBL.out; have := HS1.out; have := HS2.out; have := E1.out; simp only [List.length_append, List.length_cons, List.length_nil]; omega) (below_size HB9.out) ?_; intro v10 w10 hM hb; have HM10 := Aside0.mk hM; have HB10 := Aside0.mk (HB9.out.trans hb); clear hM hb)))
          | (go_at_call 30; (with_reducible refine (inclineref21_digits.calls 20 _ _ _ hf0.out).mono ?_); rintro e w6 ⟨rfl, hb⟩; have HM6 := Aside0.mk (HM5.out.step hb); have HB6 := Aside0.mk (below_step HB5.out hb); clear hb)
          | (go_at_call 30; (with_reducible refine (inclineref21_digits.calls 20 _ _ _ hf1.out).mono ?_); rintro e w9 ⟨rfl, hb⟩; have HM9 := Aside0.mk (HM8.out.step hb); have HB9 := Aside0.mk (below_step HB8.out hb); clear hb))
        go_roundg k1
        case measure => omega
        case rel => exact ⟨i + 1, _, rfl, ⟨by have := HK.out; omega⟩, HNX, HM10, HB10⟩
  · rw [if_neg hc] at h
    cases h
end Go.Proofs.YtlfoaaeelcmhiaaDoor.G
end

section
/- Plain laws, on: what script.Print answers. -/
namespace Go.Proofs.YtlfoaaeelcmhiaaDoor.Pure
open Go.RowKit Go.Proofs.YtlfoaaeelcmhiaaDoor.G
open Go.Proofs.YtlfoaaeelcmhiaaDoorW.PrintWords hiding nums
set_option linter.unusedVariables false
set_option linter.unusedSimpArgs false
def u64ok (n : Int) : Prop := 0 ≤ n ∧ n ≤ 18446744073709551615
def numsText (ns : List Int) : Bytes := ns.flatMap fun n => 32 :: Lib.decDigits n.toNat
def prGo : List S30 → Bytes → ByteArray × Int
  | [], bs => if 65536 < bs.length then (⟨#[]⟩, 210) else (mk bs, 0)
  | c :: cs, bs => if takesL (bl c.f0) = -1 then (⟨#[]⟩, 211) else if (c.f1.length : Int) ≠ takesL (bl c.f0) then (⟨#[]⟩, 213) else prGo cs (bs ++ bl c.f0 ++ numsText c.f1 ++ [10])
theorem nums_append (a b : Bytes) : nums (a ++ b) = nums a ++ nums b := by simp [nums]
theorem nums_length (a : Bytes) : (nums a).length = a.length := by simp [nums]
theorem bytesOf_nums (s : ByteArray) : bytesOf s = nums (bl s) := by
  simp [bytesOf, nums, bl]
theorem rdT_get (l : List S30) (i : Nat) (h : i < l.length) : rd_T30 l (i : Int) = l[i] := by
  unfold rd_T30
  rw [Int.toNat_natCast, List.getD_eq_getElem?_getD, List.getElem?_eq_getElem h]
  rfl
theorem rd_get (l : List Int) (i : Nat) (h : i < l.length) : rd l (i : Int) = l[i] := by
  unfold rd
  rw [Int.toNat_natCast, List.getD_eq_getElem?_getD, List.getElem?_eq_getElem h]
  rfl
theorem dec_len {n : Int} (h : u64ok n) : (Lib.decDigits n.toNat).length ≤ 20 := decDigits_le (by have := h.2; have := h.1; omega)
theorem print_l1 (ns : List Int) (hns : ∀ n ∈ ns, u64ok n) (hl : ns.length ≤ 1000) (l : List S30) (i : Nat) (hi : i < l.length) (hln : l.length ≤ 4096) : ∀ (d j : Nat) (bs : Bytes) (k : Nat), ns.length = j + d → bs.length + 21 * d ≤ 1000000000 →
    script_Print.l1 (k + d + 1) (nums bs) l (l.length : Int) (i : Int) ns (ns.length : Int) (j : Int) = script_Print.l0 k (nums (bs ++ numsText (ns.drop j) ++ [10])) l (l.length : Int) ((i + 1 : Nat) : Int) := by
  intro d
  induction d with
  | zero =>
    intro j bs k h1 h2
    simp only [Nat.add_zero, script_Print.l1]
    rw [if_neg (by omega), nums_length, if_pos (by omega), w64 (by omega) (by omega), List.drop_eq_nil_of_le (by omega)]
    rw [show nums bs ++ [10] = nums (bs ++ [10]) from by rw [nums_append]; rfl]
    simp [numsText]
  | succ d ih =>
    intro j bs k h1 h2
    have hj : j < ns.length := by omega
    have hu := hns _ (List.getElem_mem hj)
    have hd := dec_len hu
    obtain ⟨K, hK⟩ : ∃ K, k + d + 1 = K := ⟨_, rfl⟩
    rw [show k + (d + 1) + 1 = K + 1 from by omega]
    simp only [script_Print.l1]
    rw [if_pos (by omega), if_pos (by omega), if_pos (by omega), nums_length, if_pos (by omega), rd_get _ _ hj]
    unfold strconv_AppendUint.f
    rw [if_pos ⟨rfl, hu, by rw [List.length_append, nums_length, List.length_singleton]; omega⟩, Option.bind_some, w64 (by omega) (by omega)]
    rw [show nums bs ++ [32] ++ nums (Lib.decDigits ns[j].toNat) = nums (bs ++ (32 :: Lib.decDigits ns[j].toNat)) from by rw [nums_append]; simp [nums], show (j : Int) + 1 = ((j + 1 : Nat) : Int) from rfl, ← hK, ih (j + 1) _ k (by omega) (by rw [List.length_append, List.length_cons]; omega)]
    have e : numsText (ns.drop j) = (32 :: Lib.decDigits ns[j].toNat) ++ numsText (ns.drop (j + 1)) := by rw [List.drop_eq_getElem_cons hj]; rfl
    rw [e, List.append_assoc bs]
theorem numsText_len (ns : List Int) (hns : ∀ n ∈ ns, u64ok n) : (numsText ns).length ≤ 21 * ns.length := by
  induction ns with
  | nil => simp [numsText]
  | cons n ns ih =>
    have := ih (fun m hm => hns m (List.mem_cons_of_mem _ hm))
    have hd := dec_len (hns n List.mem_cons_self)
    have e : numsText (n :: ns) = (32 :: Lib.decDigits n.toNat) ++ numsText ns := rfl
    rw [e, List.length_append, List.length_cons, List.length_cons]
    omega
theorem print_l0 (l : List S30) (hw : ∀ c ∈ l, ∀ n ∈ c.f1, u64ok n) (hln : l.length ≤ 4096) : ∀ (m i : Nat) (bs : Bytes) (k : Nat), l.length = i + m → 6 * m + 4 ≤ k → bs.length ≤ 100 * i →
    script_Print.l0 k (nums bs) l (l.length : Int) (i : Int) = some (prGo (l.drop i) bs) := by
  intro m
  induction m with
  | zero =>
    intro i bs k h1 hk hb
    obtain ⟨k, rfl⟩ : ∃ m, k = m + 1 := ⟨k - 1, by omega⟩
    simp only [script_Print.l0]
    rw [if_neg (by omega), nums_length, List.drop_eq_nil_of_le (by omega)]
    unfold prGo
    by_cases h : 65536 < bs.length
    · rw [if_pos (by omega), if_pos h]
    · rw [if_neg (by omega), if_neg h, strOf_nums]
      rfl
  | succ m ih =>
    intro i bs k h1 hk hb
    obtain ⟨k, rfl⟩ : ∃ m, k = m + 1 := ⟨k - 1, by omega⟩
    have hi : i < l.length := by omega
    have hwi := hw _ (List.getElem_mem hi)
    rw [List.drop_eq_getElem_cons hi]
    simp only [script_Print.l0]
    rw [if_pos (by omega), if_pos (by omega), if_pos (by omega), rdT_get _ _ hi, takes_is k (by omega), Option.bind_some]
    unfold prGo
    by_cases ht : takesL (bl l[i].f0) = -1
    · rw [if_pos ht, if_pos ht]
      rfl
    · have hr := takesL_range (bl l[i].f0)
      have hlen := (takesL_len _ ht).1
      rw [bl_length] at hlen
      rw [if_neg ht, if_neg ht]
      simp only []
      rw [if_pos trivial]
      by_cases hn : (l[i].f1.length : Int) = takesL (bl l[i].f0)
      · have hnl := numsText_len _ hwi
        rw [if_pos hn, if_neg (show ¬ ((l[i].f1.length : Int) ≠ takesL (bl l[i].f0)) from fun h => h hn), nums_length, if_pos (by omega), bytesOf_nums, ← nums_append]
        obtain ⟨k', hk'⟩ : ∃ k', k = k' + l[i].f1.length + 1 := ⟨k - l[i].f1.length - 1, by omega⟩
        have h1' := print_l1 l[i].f1 hwi (by omega) l i hi hln l[i].f1.length 0 (bs ++ bl l[i].f0) k' (by omega) (by rw [List.length_append, bl_length]; omega)
        rw [← hk', show ((0 : Nat) : Int) = 0 from rfl, List.drop_zero] at h1'
        rw [h1', ih (i + 1) _ k' (by omega) (by omega) (by simp only [List.length_append, List.length_cons, List.length_nil, bl_length]; omega)]
      · rw [if_neg hn, if_pos hn]
theorem print_is (l : List S30) (hw : ∀ c ∈ l, ∀ n ∈ c.f1, u64ok n) (k : Nat) (hk : 30000 ≤ k) : script_Print.f k l = some (if 4096 < l.length then (⟨#[]⟩, 210) else prGo l []) := by
  unfold script_Print.f
  by_cases h : 4096 < l.length
  · rw [if_pos (by omega), if_pos h]
  · rw [if_neg (by omega), if_neg h]
    exact print_l0 l hw (by omega) l.length 0 [] k (by omega) (by omega) (by simp)
end Go.Proofs.YtlfoaaeelcmhiaaDoor.Pure
end

section
-- Written by a program of this session (wip/gprint.py: the kit's print, with contracts proved by hand)
namespace Go.Proofs.YtlfoaaeelcmhiaaDoor.G
open Go.RowKit Go.Proofs.YtlfoaaeelcmhiaaDoorW.PrintWords Go.Proofs.YtlfoaaeelcmhiaaDoorW.PrintLast Go.Proofs.YtlfoaaeelcmhiaaDoorW.PrintMore
attribute [local go_sem] max2_int min2_int max_two min_two max_three min_three max_four min_four   -- for this text's walks alone
set_option linter.unusedVariables false
set_option linter.unusedSimpArgs false

/-! ### inclinelaw21_same: function 14 -/
mutual
def inclinelaw21_same.l0 : Nat → List (S30) → List (S30) → Int → Option (Bool)
  | 0, _, _, _ => none
  | k + 1, x0, x1, x5 => if x5 < (x0.length : Int) then (if 0 ≤ x5 then (if x5 < (x1.length : Int) then (if ((rd_T30 x0 x5).f0).toList = ((rd_T30 x1 x5).f0).toList then (inclinelaw21_same.j1 k x0 x1 x5 ((((rd_T30 x0 x5).f1).length : Int) != (((rd_T30 x1 x5).f1).length : Int))) else (inclinelaw21_same.j1 k x0 x1 x5 true)) else (none)) else (none)) else (some true)
def inclinelaw21_same.j1 : Nat → List (S30) → List (S30) → Int → Bool → Option (Bool)
  | 0, _, _, _, _ => none
  | k + 1, x0, x1, x5, x43 => if x43 = true then (some false) else (inclinelaw21_same.l1 k x0 x1 x5 0)
def inclinelaw21_same.l1 : Nat → List (S30) → List (S30) → Int → Int → Option (Bool)
  | 0, _, _, _, _ => none
  | k + 1, x0, x1, x5, x6 => if 0 ≤ x5 then (if x5 < (x0.length : Int) then (if x6 < (((rd_T30 x0 x5).f1).length : Int) then (if 0 ≤ x6 then (if x5 < (x1.length : Int) then (if x6 < (((rd_T30 x1 x5).f1).length : Int) then (if (rd ((rd_T30 x0 x5).f1) x6) = (rd ((rd_T30 x1 x5).f1) x6) then (inclinelaw21_same.l1 k x0 x1 x5 (wrap64 (x6 + 1))) else (some false)) else (none)) else (none)) else (none)) else (inclinelaw21_same.l0 k x0 x1 (wrap64 (x5 + 1)))) else (none)) else (none)
end
def inclinelaw21_same.f (k : Nat) (l0 : List (S30)) (l1 : List (S30)) : Option (Bool) := if (l0.length : Int) = (l1.length : Int) then (inclinelaw21_same.l0 k l0 l1 0) else (some false)
theorem inclinelaw21_same.mono_l : ∀ k, (∀ y0 y1 y2, LeO (inclinelaw21_same.l0 k y0 y1 y2) (inclinelaw21_same.l0 (k + 1) y0 y1 y2)) ∧ (∀ y0 y1 y2 y3, LeO (inclinelaw21_same.j1 k y0 y1 y2 y3) (inclinelaw21_same.j1 (k + 1) y0 y1 y2 y3)) ∧ (∀ y0 y1 y2 y3, LeO (inclinelaw21_same.l1 k y0 y1 y2 y3) (inclinelaw21_same.l1 (k + 1) y0 y1 y2 y3))
  | 0 => ⟨fun _ _ _ r h => by simp [inclinelaw21_same.l0] at h, fun _ _ _ _ r h => by simp [inclinelaw21_same.j1] at h, fun _ _ _ _ r h => by simp [inclinelaw21_same.l1] at h⟩
  | k + 1 => by
    obtain ⟨ih0, ih1, ih2⟩ := inclinelaw21_same.mono_l k
    refine ⟨?_, ?_, ?_⟩
    · intro y0 y1 y2
      unfold inclinelaw21_same.l0
      repeat' first
      | (with_reducible exact ih0 _ _ _)
      | (with_reducible exact ih1 _ _ _ _)
      | (with_reducible exact ih2 _ _ _ _)
      | (with_reducible exact LeO.refl _)
      | (with_reducible exact LeO.none _)
      | (with_reducible refine LeO.ite ?_ ?_)
      | (with_reducible refine LeO.bind ?_ (fun _ => ?_))
      | exact ih0 _ _ _
      | exact ih1 _ _ _ _
      | exact ih2 _ _ _ _
      | exact LeO.none _
      | refine LeO.ite ?_ ?_
      | refine LeO.bind ?_ (fun _ => ?_)
    · intro y0 y1 y2 y3
      unfold inclinelaw21_same.j1
      repeat' first
      | (with_reducible exact ih0 _ _ _)
      | (with_reducible exact ih1 _ _ _ _)
      | (with_reducible exact ih2 _ _ _ _)
      | (with_reducible exact LeO.refl _)
      | (with_reducible exact LeO.none _)
      | (with_reducible refine LeO.ite ?_ ?_)
      | (with_reducible refine LeO.bind ?_ (fun _ => ?_))
      | exact ih0 _ _ _
      | exact ih1 _ _ _ _
      | exact ih2 _ _ _ _
      | exact LeO.none _
      | refine LeO.ite ?_ ?_
      | refine LeO.bind ?_ (fun _ => ?_)
    · intro y0 y1 y2 y3
      unfold inclinelaw21_same.l1
      repeat' first
      | (with_reducible exact ih0 _ _ _)
      | (with_reducible exact ih1 _ _ _ _)
      | (with_reducible exact ih2 _ _ _ _)
      | (with_reducible exact LeO.refl _)
      | (with_reducible exact LeO.none _)
      | (with_reducible refine LeO.ite ?_ ?_)
      | (with_reducible refine LeO.bind ?_ (fun _ => ?_))
      | exact ih0 _ _ _
      | exact ih1 _ _ _ _
      | exact ih2 _ _ _ _
      | exact LeO.none _
      | refine LeO.ite ?_ ?_
      | refine LeO.bind ?_ (fun _ => ?_)
theorem inclinelaw21_same.mono : ∀ a0 a1 k, LeO (inclinelaw21_same.f k a0 a1) (inclinelaw21_same.f (k + 1) a0 a1) := by
  intro a0 a1 k
  obtain ⟨ih0, ih1, ih2⟩ := inclinelaw21_same.mono_l k
  unfold inclinelaw21_same.f
  repeat' first
      | (with_reducible exact ih0 _ _ _)
      | (with_reducible exact ih1 _ _ _ _)
      | (with_reducible exact ih2 _ _ _ _)
      | (with_reducible exact LeO.refl _)
      | (with_reducible exact LeO.none _)
      | (with_reducible refine LeO.ite ?_ ?_)
      | (with_reducible refine LeO.bind ?_ (fun _ => ?_))
      | exact ih0 _ _ _
      | exact ih1 _ _ _ _
      | exact ih2 _ _ _ _
      | exact LeO.none _
      | refine LeO.ite ?_ ?_
      | refine LeO.bind ?_ (fun _ => ?_)
set_option maxHeartbeats 8000000 in
set_option maxRecDepth 100000 in
theorem inclinelaw21_same.calls (k : Nat) (A0 : Option Addr) (c0 : Nat) (l0 : List (S30)) (A1 : Option Addr) (c1 : Nat) (l1 : List (S30)) (r : Bool) (w : World) (hr0 : Kd.C k30 w A0 l0.length l0) (hc0 : l0.length ≤ c0) (hr1 : Kd.C k30 w A1 l1.length l1) (hc1 : l1.length ≤ c1) (h : inclinelaw21_same.f k l0 l1 = some r) :
    Calls Tryd.prog 14 #[.slice A0 l0.length c0, .slice A1 l1.length c1] w fun e w' => e = .returned (.bool r) ∧ Drawn0 w w' := by
  have HR0 := Aside0.mk hr0
  have HC0 := Aside0.mk hc0
  clear hr0 hc0
  have HR1 := Aside0.mk hr1
  have HC1 := Aside0.mk hc1
  clear hr1 hc1
  have H : (if (l0.length : Int) = (l1.length : Int) then (inclinelaw21_same.l0 k l0 l1 0) else (some false)) = some r := h
  clear h
  by_cases c3 : (l0.length : Int) = (l1.length : Int)
  · rw [if_pos c3] at H
    have c3b0 : ((l0.length : Int) == (l1.length : Int)) = true := beq_iff_eq.mpr c3
    have c3b1 : ((l0.length : Int) != (l1.length : Int)) = false := bne_eq_false_iff_eq.mpr c3
    have c3b2 : (l0.length == l1.length) = true := by first | simpa using c3 | (simp at c3 ⊢; omega)
    clear c3
    have H' := Aside0.mk H
    clear H
    go_enter Tryd.func14, Tryd.ntmps14
    go_wp2
    repeat (go_quiet (fail); try go_wp2)
    go_loopg [5] k (fun kq v5 w' => ∃ (x5_1 : Int), v5 = .int .i64 x5_1 ∧ Aside0 (inclinelaw21_same.l0 kq l0 l1 x5_1 = some r) ∧ Aside0 (kq ≤ k) ∧ Drawn0 w w')
    case atStart => exact ⟨(0), (by first | rfl | (simp; done) | (simp [*]; done)), H', ⟨Nat.le_refl _⟩, by repeat (first | exact Drawn0.refl _ | apply Drawn0.step)⟩
    case round =>
      clear H'
      try clear c1
      try clear p2
      try clear c3
      try clear c3b0
      try clear c3b1
      try clear c3b2
      obtain ⟨x5_1, rfl, HA, HK1, ⟨m1, rfl⟩⟩ := hrel
      cases gk with
      | zero => exact absurd HA.out (by simp [inclinelaw21_same.l0])
      | succ k1 =>
        have H := HA.out
        clear HA
        simp only [inclinelaw21_same.l0] at H
        by_cases c4 : x5_1 < (l0.length : Int)
        · rw [if_pos c4] at H
          have c4b0 : decide (x5_1 < (l0.length : Int)) = true := decide_eq_true c4
          clear c4
          have HC5 := Aside0.mk H
          clear H
          go_upto_region 6 with (fail)
          repeat (go_quiet (fail); go_upto_region 6 with (fail))
          go_cut [43] (fun v43 wc => ∃ (kq : Nat) (x43_4 : Bool), v43 = .bool x43_4 ∧ Aside0 (inclinelaw21_same.j1 kq l0 l1 x5_1 x43_4 = some r) ∧ Aside0 (kq ≤ k1) ∧ Drawn0 w wc)
          case first =>
            have H := HC5.out
            clear HC5
            by_cases c6 : 0 ≤ x5_1
            · rw [if_pos c6] at H
              have c6b0 : decide (0 ≤ x5_1) = true := decide_eq_true c6
              clear c6
              (first | rw [c6b0] | (simp only [i64_w, i32_w]; rw [c6b0]) | skip)
              by_cases c7 : x5_1 < (l1.length : Int)
              · rw [if_pos c7] at H
                have c7b0 : decide (x5_1 < (l1.length : Int)) = true := decide_eq_true c7
                clear c7
                by_cases c8 : ((rd_T30 l0 x5_1).f0).toList = ((rd_T30 l1 x5_1).f0).toList
                · rw [if_pos c8] at H
                  have c8b0 : (((rd_T30 l0 x5_1).f0).toList == ((rd_T30 l1 x5_1).f0).toList) = true := beq_iff_eq.mpr c8
                  have c8b1 : (((rd_T30 l0 x5_1).f0).toList != ((rd_T30 l1 x5_1).f0).toList) = false := bne_eq_false_iff_eq.mpr c8
                  clear c8
                  have H' := Aside0.mk H
                  clear H
                  have p114 : 0 ≤ (x5_1 : Int) := of_decide_eq_true (by first | (with_reducible assumption) | assumption)
                  have q114 : x5_1 < (l0.length : Int) := of_decide_eq_true (by first | (with_reducible assumption) | assumption)
                  obtain ⟨ad114, A114_1, c114_1, e114, hx114_0, hx114_1, hl114_1, hi114_1⟩ := at_T30 HR0.out x5_1 p114 q114
                  cases e114
                  have HR114_1 := Aside0.mk hi114_1
                  have HC114_1 := Aside0.mk hl114_1
                  clear hi114_1 hl114_1
                  replace p114 := eq_true p114
                  replace q114 := eq_true q114
                  have p115 : 0 ≤ (x5_1 : Int) := of_decide_eq_true (by first | (with_reducible assumption) | assumption)
                  have q115 : x5_1 < (l1.length : Int) := of_decide_eq_true (by first | (with_reducible assumption) | assumption)
                  obtain ⟨ad115, A115_1, c115_1, e115, hx115_0, hx115_1, hl115_1, hi115_1⟩ := at_T30 HR1.out x5_1 p115 q115
                  cases e115
                  have HR115_1 := Aside0.mk hi115_1
                  have HC115_1 := Aside0.mk hl115_1
                  clear hi115_1 hl115_1
                  replace p115 := eq_true p115
                  replace q115 := eq_true q115
                  have p116 : 0 ≤ (x5_1 : Int) := of_decide_eq_true (by first | (with_reducible assumption) | assumption)
                  have q116 : x5_1 < (l0.length : Int) := of_decide_eq_true (by first | (with_reducible assumption) | assumption)
                  obtain ⟨ad116, A116_1, c116_1, e116, hx116_0, hx116_1, hl116_1, hi116_1⟩ := at_T30 HR0.out x5_1 p116 q116
                  obtain rfl : ad114 = ad116 := (by injection e116)
                  have HR116_1 := Aside0.mk hi116_1
                  have HC116_1 := Aside0.mk hl116_1
                  clear hi116_1 hl116_1
                  replace p116 := eq_true p116
                  replace q116 := eq_true q116
                  have ea_ := Option.some.inj (hx114_1.symm.trans hx116_1)
                  injection ea_ with ea_ en_ ec_
                  subst ea_
                  subst ec_
                  clear en_
                  have p117 : 0 ≤ (x5_1 : Int) := of_decide_eq_true (by first | (with_reducible assumption) | assumption)
                  have q117 : x5_1 < (l1.length : Int) := of_decide_eq_true (by first | (with_reducible assumption) | assumption)
                  obtain ⟨ad117, A117_1, c117_1, e117, hx117_0, hx117_1, hl117_1, hi117_1⟩ := at_T30 HR1.out x5_1 p117 q117
                  obtain rfl : ad115 = ad117 := (by injection e117)
                  have HR117_1 := Aside0.mk hi117_1
                  have HC117_1 := Aside0.mk hl117_1
                  clear hi117_1 hl117_1
                  replace p117 := eq_true p117
                  replace q117 := eq_true q117
                  have ea_ := Option.some.inj (hx115_1.symm.trans hx117_1)
                  injection ea_ with ea_ en_ ec_
                  subst ea_
                  subst ec_
                  clear en_
                  go_wp2
                  repeat (go_quiet (fail); try go_wp2)
                  go_meet
                  case rel => exact ⟨_, (((((rd_T30 l0 x5_1).f1).length : Int) != (((rd_T30 l1 x5_1).f1).length : Int))), (by first | rfl | (simp; done) | (simp [*]; done)), H', ⟨by have := HK1.out; first | omega | exact Nat.le_refl _⟩, by repeat (first | exact Drawn0.refl _ | apply Drawn0.step)⟩
                · rw [if_neg c8] at H
                  have c8b0 : (((rd_T30 l0 x5_1).f0).toList == ((rd_T30 l1 x5_1).f0).toList) = false := beq_eq_false_iff_ne.mpr c8
                  have c8b1 : (((rd_T30 l0 x5_1).f0).toList != ((rd_T30 l1 x5_1).f0).toList) = true := bne_iff_ne.mpr c8
                  have H' := Aside0.mk H
                  clear H
                  have p114 : 0 ≤ (x5_1 : Int) := of_decide_eq_true (by first | (with_reducible assumption) | assumption)
                  have q114 : x5_1 < (l0.length : Int) := of_decide_eq_true (by first | (with_reducible assumption) | assumption)
                  obtain ⟨ad114, A114_1, c114_1, e114, hx114_0, hx114_1, hl114_1, hi114_1⟩ := at_T30 HR0.out x5_1 p114 q114
                  cases e114
                  have HR114_1 := Aside0.mk hi114_1
                  have HC114_1 := Aside0.mk hl114_1
                  clear hi114_1 hl114_1
                  replace p114 := eq_true p114
                  replace q114 := eq_true q114
                  have p115 : 0 ≤ (x5_1 : Int) := of_decide_eq_true (by first | (with_reducible assumption) | assumption)
                  have q115 : x5_1 < (l1.length : Int) := of_decide_eq_true (by first | (with_reducible assumption) | assumption)
                  obtain ⟨ad115, A115_1, c115_1, e115, hx115_0, hx115_1, hl115_1, hi115_1⟩ := at_T30 HR1.out x5_1 p115 q115
                  cases e115
                  have HR115_1 := Aside0.mk hi115_1
                  have HC115_1 := Aside0.mk hl115_1
                  clear hi115_1 hl115_1
                  replace p115 := eq_true p115
                  replace q115 := eq_true q115
                  go_wp2
                  repeat (go_quiet (fail); try go_wp2)
                  go_meet
                  case rel => exact ⟨_, (true), (by first | rfl | (simp; done) | (simp [*]; done)), H', ⟨by have := HK1.out; first | omega | exact Nat.le_refl _⟩, by repeat (first | exact Drawn0.refl _ | apply Drawn0.step)⟩
              · rw [if_neg c7] at H
                exact absurd H (by simp)
            · rw [if_neg c6] at H
              exact absurd H (by simp)
          case rest =>
            clear HC5
            try clear c1
            try clear p1
            try clear q1
            try clear hx1
            try clear p2
            try clear c3
            try clear c3b0
            try clear c3b1
            try clear c3b2
            try clear c4
            try clear c4b0
            try clear c6
            try clear c6b0
            try clear c7
            try clear c7b0
            try clear c8
            try clear c8b0
            try clear c8b1
            try clear hx114_0
            try clear hx114_1
            try clear hx115_0
            try clear hx115_1
            try clear hx116_0
            try clear hx116_1
            try clear hx117_0
            try clear hx117_1
            try clear p114
            try clear p115
            try clear p116
            try clear p117
            try clear p2
            try clear q114
            try clear q115
            try clear q116
            try clear q117
            obtain ⟨kq, x43_4, rfl, HA, HJ4, ⟨mc4, rfl⟩⟩ := hcut
            cases kq with
            | zero => exact absurd HA.out (by simp [inclinelaw21_same.j1])
            | succ kj4 =>
              have H := HA.out
              clear HA
              simp only [inclinelaw21_same.j1] at H
              by_cases c9 : x43_4 = true
              · subst c9
                have H1 : (some false) = some r := by rw [if_pos rfl] at H; exact H
                clear H
                have H := H1
                clear H1
                obtain rfl := Option.some.inj H
                go_wp2
                repeat (go_quiet (fail); try go_wp2)
                go_ret
                exact ⟨by first | rfl | (simp; done) | (simp [*]; done), by repeat (first | exact Drawn0.refl _ | apply Drawn0.step)⟩
              · replace c9 := Bool.eq_false_iff.mpr c9
                subst c9
                have H1 : (inclinelaw21_same.l1 kj4 l0 l1 x5_1 0) = some r := by rw [if_neg (show ¬ (false = true) by decide)] at H; exact H
                clear H
                have H := H1
                clear H1
                have H' := Aside0.mk H
                clear H
                go_wp2
                repeat (go_quiet (fail); try go_wp2)
                go_loopg [6] kj4 (fun kq v6 w' => ∃ (x6_3 : Int), v6 = .int .i64 x6_3 ∧ Aside0 (inclinelaw21_same.l1 kq l0 l1 x5_1 x6_3 = some r) ∧ Aside0 (kq ≤ kj4) ∧ Drawn0 w w')
                case atStart => exact ⟨(0), (by first | rfl | (simp; done) | (simp [*]; done)), H', ⟨Nat.le_refl _⟩, by repeat (first | exact Drawn0.refl _ | apply Drawn0.step)⟩
                case round =>
                  clear H'
                  try clear c1
                  try clear p1
                  try clear q1
                  try clear hx1
                  try clear p2
                  try clear c3
                  try clear c3b0
                  try clear c3b1
                  try clear c3b2
                  try clear c4
                  try clear c4b0
                  try clear c6
                  try clear c6b0
                  try clear c7
                  try clear c7b0
                  try clear c8
                  try clear c8b0
                  try clear c8b1
                  try clear c9
                  try clear hx114_0
                  try clear hx114_1
                  try clear hx115_0
                  try clear hx115_1
                  try clear hx116_0
                  try clear hx116_1
                  try clear hx117_0
                  try clear hx117_1
                  try clear p1
                  try clear p114
                  try clear p115
                  try clear p116
                  try clear p117
                  try clear p2
                  try clear q1
                  try clear q114
                  try clear q115
                  try clear q116
                  try clear q117
                  obtain ⟨x6_3, rfl, HA, HK3, ⟨m3, rfl⟩⟩ := hrel
                  cases gk with
                  | zero => exact absurd HA.out (by simp [inclinelaw21_same.l1])
                  | succ k3 =>
                    have H := HA.out
                    clear HA
                    simp only [inclinelaw21_same.l1] at H
                    by_cases c10 : 0 ≤ x5_1
                    · rw [if_pos c10] at H
                      have c10b0 : decide (0 ≤ x5_1) = true := decide_eq_true c10
                      clear c10
                      by_cases c11 : x5_1 < (l0.length : Int)
                      · rw [if_pos c11] at H
                        have c11b0 : decide (x5_1 < (l0.length : Int)) = true := decide_eq_true c11
                        clear c11
                        by_cases c12 : x6_3 < (((rd_T30 l0 x5_1).f1).length : Int)
                        · rw [if_pos c12] at H
                          have c12b0 : decide (x6_3 < (((rd_T30 l0 x5_1).f1).length : Int)) = true := decide_eq_true c12
                          clear c12
                          by_cases c13 : 0 ≤ x6_3
                          · rw [if_pos c13] at H
                            have c13b0 : decide (0 ≤ x6_3) = true := decide_eq_true c13
                            clear c13
                            by_cases c14 : x5_1 < (l1.length : Int)
                            · rw [if_pos c14] at H
                              have c14b0 : decide (x5_1 < (l1.length : Int)) = true := decide_eq_true c14
                              clear c14
                              by_cases c15 : x6_3 < (((rd_T30 l1 x5_1).f1).length : Int)
                              · rw [if_pos c15] at H
                                have c15b0 : decide (x6_3 < (((rd_T30 l1 x5_1).f1).length : Int)) = true := decide_eq_true c15
                                clear c15
                                by_cases c16 : (rd ((rd_T30 l0 x5_1).f1) x6_3) = (rd ((rd_T30 l1 x5_1).f1) x6_3)
                                · rw [if_pos c16] at H
                                  have c16b0 : ((rd ((rd_T30 l0 x5_1).f1) x6_3) == (rd ((rd_T30 l1 x5_1).f1) x6_3)) = true := beq_iff_eq.mpr c16
                                  have c16b1 : ((rd ((rd_T30 l0 x5_1).f1) x6_3) != (rd ((rd_T30 l1 x5_1).f1) x6_3)) = false := bne_eq_false_iff_eq.mpr c16
                                  clear c16
                                  have H' := Aside0.mk H
                                  clear H
                                  have p118 : 0 ≤ (x5_1 : Int) := of_decide_eq_true (by first | (with_reducible assumption) | assumption)
                                  have q118 : x5_1 < (l0.length : Int) := of_decide_eq_true (by first | (with_reducible assumption) | assumption)
                                  obtain ⟨ad118, A118_1, c118_1, e118, hx118_0, hx118_1, hl118_1, hi118_1⟩ := at_T30 HR0.out x5_1 p118 q118
                                  cases e118
                                  have HR118_1 := Aside0.mk hi118_1
                                  have HC118_1 := Aside0.mk hl118_1
                                  clear hi118_1 hl118_1
                                  replace p118 := eq_true p118
                                  replace q118 := eq_true q118
                                  have p119 : 0 ≤ (x5_1 : Int) := of_decide_eq_true (by first | (with_reducible assumption) | assumption)
                                  have q119 : x5_1 < (l0.length : Int) := of_decide_eq_true (by first | (with_reducible assumption) | assumption)
                                  obtain ⟨ad119, A119_1, c119_1, e119, hx119_0, hx119_1, hl119_1, hi119_1⟩ := at_T30 HR0.out x5_1 p119 q119
                                  obtain rfl : ad118 = ad119 := (by injection e119)
                                  have HR119_1 := Aside0.mk hi119_1
                                  have HC119_1 := Aside0.mk hl119_1
                                  clear hi119_1 hl119_1
                                  replace p119 := eq_true p119
                                  replace q119 := eq_true q119
                                  have ea_ := Option.some.inj (hx118_1.symm.trans hx119_1)
                                  injection ea_ with ea_ en_ ec_
                                  subst ea_
                                  subst ec_
                                  clear en_
                                  have p120 : 0 ≤ (x6_3 : Int) := of_decide_eq_true (by first | (with_reducible assumption) | assumption)
                                  have q120 : x6_3 < (((rd_T30 l0 x5_1).f1).length : Int) := of_decide_eq_true (by first | (with_reducible assumption) | assumption)
                                  obtain ⟨ad120, e120, hx120_0⟩ := Kd.at_int HR119_1.out x6_3 p120 q120
                                  cases e120
                                  replace p120 := eq_true p120
                                  replace q120 := eq_true q120
                                  have p121 : 0 ≤ (x5_1 : Int) := of_decide_eq_true (by first | (with_reducible assumption) | assumption)
                                  have q121 : x5_1 < (l1.length : Int) := of_decide_eq_true (by first | (with_reducible assumption) | assumption)
                                  obtain ⟨ad121, A121_1, c121_1, e121, hx121_0, hx121_1, hl121_1, hi121_1⟩ := at_T30 HR1.out x5_1 p121 q121
                                  cases e121
                                  have HR121_1 := Aside0.mk hi121_1
                                  have HC121_1 := Aside0.mk hl121_1
                                  clear hi121_1 hl121_1
                                  replace p121 := eq_true p121
                                  replace q121 := eq_true q121
                                  have p122 : 0 ≤ (x6_3 : Int) := of_decide_eq_true (by first | (with_reducible assumption) | assumption)
                                  have q122 : x6_3 < (((rd_T30 l1 x5_1).f1).length : Int) := of_decide_eq_true (by first | (with_reducible assumption) | assumption)
                                  obtain ⟨ad122, e122, hx122_0⟩ := Kd.at_int HR121_1.out x6_3 p122 q122
                                  cases e122
                                  replace p122 := eq_true p122
                                  replace q122 := eq_true q122
                                  go_wp2
                                  repeat (go_quiet (fail); try go_wp2)
                                  go_roundg k3
                                  case measure => have := HK1.out; have := HJ4.out; have := HK3.out; omega
                                  case rel => exact ⟨(wrap64 (x6_3 + 1)), (by first | rfl | (simp; done) | (simp [*]; done)), H', ⟨by have := HK1.out; have := HJ4.out; have := HK3.out; omega⟩, by repeat (first | exact Drawn0.refl _ | apply Drawn0.step)⟩
                                · rw [if_neg c16] at H
                                  have c16b0 : ((rd ((rd_T30 l0 x5_1).f1) x6_3) == (rd ((rd_T30 l1 x5_1).f1) x6_3)) = false := beq_eq_false_iff_ne.mpr c16
                                  have c16b1 : ((rd ((rd_T30 l0 x5_1).f1) x6_3) != (rd ((rd_T30 l1 x5_1).f1) x6_3)) = true := bne_iff_ne.mpr c16
                                  obtain rfl := Option.some.inj H
                                  have p118 : 0 ≤ (x5_1 : Int) := of_decide_eq_true (by first | (with_reducible assumption) | assumption)
                                  have q118 : x5_1 < (l0.length : Int) := of_decide_eq_true (by first | (with_reducible assumption) | assumption)
                                  obtain ⟨ad118, A118_1, c118_1, e118, hx118_0, hx118_1, hl118_1, hi118_1⟩ := at_T30 HR0.out x5_1 p118 q118
                                  cases e118
                                  have HR118_1 := Aside0.mk hi118_1
                                  have HC118_1 := Aside0.mk hl118_1
                                  clear hi118_1 hl118_1
                                  replace p118 := eq_true p118
                                  replace q118 := eq_true q118
                                  have p119 : 0 ≤ (x5_1 : Int) := of_decide_eq_true (by first | (with_reducible assumption) | assumption)
                                  have q119 : x5_1 < (l0.length : Int) := of_decide_eq_true (by first | (with_reducible assumption) | assumption)
                                  obtain ⟨ad119, A119_1, c119_1, e119, hx119_0, hx119_1, hl119_1, hi119_1⟩ := at_T30 HR0.out x5_1 p119 q119
                                  obtain rfl : ad118 = ad119 := (by injection e119)
                                  have HR119_1 := Aside0.mk hi119_1
                                  have HC119_1 := Aside0.mk hl119_1
                                  clear hi119_1 hl119_1
                                  replace p119 := eq_true p119
                                  replace q119 := eq_true q119
                                  have ea_ := Option.some.inj (hx118_1.symm.trans hx119_1)
                                  injection ea_ with ea_ en_ ec_
                                  subst ea_
                                  subst ec_
                                  clear en_
                                  have p120 : 0 ≤ (x6_3 : Int) := of_decide_eq_true (by first | (with_reducible assumption) | assumption)
                                  have q120 : x6_3 < (((rd_T30 l0 x5_1).f1).length : Int) := of_decide_eq_true (by first | (with_reducible assumption) | assumption)
                                  obtain ⟨ad120, e120, hx120_0⟩ := Kd.at_int HR119_1.out x6_3 p120 q120
                                  cases e120
                                  replace p120 := eq_true p120
                                  replace q120 := eq_true q120
                                  have p121 : 0 ≤ (x5_1 : Int) := of_decide_eq_true (by first | (with_reducible assumption) | assumption)
                                  have q121 : x5_1 < (l1.length : Int) := of_decide_eq_true (by first | (with_reducible assumption) | assumption)
                                  obtain ⟨ad121, A121_1, c121_1, e121, hx121_0, hx121_1, hl121_1, hi121_1⟩ := at_T30 HR1.out x5_1 p121 q121
                                  cases e121
                                  have HR121_1 := Aside0.mk hi121_1
                                  have HC121_1 := Aside0.mk hl121_1
                                  clear hi121_1 hl121_1
                                  replace p121 := eq_true p121
                                  replace q121 := eq_true q121
                                  have p122 : 0 ≤ (x6_3 : Int) := of_decide_eq_true (by first | (with_reducible assumption) | assumption)
                                  have q122 : x6_3 < (((rd_T30 l1 x5_1).f1).length : Int) := of_decide_eq_true (by first | (with_reducible assumption) | assumption)
                                  obtain ⟨ad122, e122, hx122_0⟩ := Kd.at_int HR121_1.out x6_3 p122 q122
                                  cases e122
                                  replace p122 := eq_true p122
                                  replace q122 := eq_true q122
                                  go_wp2
                                  repeat (go_quiet (fail); try go_wp2)
                                  go_ret
                                  exact ⟨by first | rfl | (simp; done) | (simp [*]; done), by repeat (first | exact Drawn0.refl _ | apply Drawn0.step)⟩
                              · rw [if_neg c15] at H
                                exact absurd H (by simp)
                            · rw [if_neg c14] at H
                              exact absurd H (by simp)
                          · rw [if_neg c13] at H
                            exact absurd H (by simp)
                        · rw [if_neg c12] at H
                          have c12b0 : decide (x6_3 < (((rd_T30 l0 x5_1).f1).length : Int)) = false := decide_eq_false c12
                          clear c12
                          have H' := Aside0.mk H
                          clear H
                          have p118 : 0 ≤ (x5_1 : Int) := of_decide_eq_true (by first | (with_reducible assumption) | assumption)
                          have q118 : x5_1 < (l0.length : Int) := of_decide_eq_true (by first | (with_reducible assumption) | assumption)
                          obtain ⟨ad118, A118_1, c118_1, e118, hx118_0, hx118_1, hl118_1, hi118_1⟩ := at_T30 HR0.out x5_1 p118 q118
                          cases e118
                          have HR118_1 := Aside0.mk hi118_1
                          have HC118_1 := Aside0.mk hl118_1
                          clear hi118_1 hl118_1
                          replace p118 := eq_true p118
                          replace q118 := eq_true q118
                          go_wp2
                          repeat (go_quiet (fail); try go_wp2)
                          go_roundg k3
                          case measure => have := HK1.out; have := HJ4.out; have := HK3.out; omega
                          case rel => exact ⟨(wrap64 (x5_1 + 1)), (by first | rfl | (simp; done) | (simp [*]; done)), H', ⟨by have := HK1.out; have := HJ4.out; have := HK3.out; omega⟩, by repeat (first | exact Drawn0.refl _ | apply Drawn0.step)⟩
                      · rw [if_neg c11] at H
                        exact absurd H (by simp)
                    · rw [if_neg c10] at H
                      exact absurd H (by simp)
        · rw [if_neg c4] at H
          have c4b0 : decide (x5_1 < (l0.length : Int)) = false := decide_eq_false c4
          clear c4
          obtain rfl := Option.some.inj H
          go_wp2
          repeat (go_quiet (fail); try go_wp2)
          go_ret
          exact ⟨by first | rfl | (simp; done) | (simp [*]; done), by repeat (first | exact Drawn0.refl _ | apply Drawn0.step)⟩
  · rw [if_neg c3] at H
    have c3b0 : ((l0.length : Int) == (l1.length : Int)) = false := beq_eq_false_iff_ne.mpr c3
    have c3b1 : ((l0.length : Int) != (l1.length : Int)) = true := bne_iff_ne.mpr c3
    have c3b2 : (l0.length == l1.length) = false := by first | simpa using c3 | (simp at c3 ⊢; omega)
    obtain rfl := Option.some.inj H
    go_enter Tryd.func14, Tryd.ntmps14
    go_wp2
    repeat (go_quiet (fail); try go_wp2)
    go_ret
    exact ⟨by first | rfl | (simp; done) | (simp [*]; done), by repeat (first | exact Drawn0.refl _ | apply Drawn0.step)⟩

end Go.Proofs.YtlfoaaeelcmhiaaDoor.G
end

section
/- Plain laws, on: same. -/
namespace Go.Proofs.YtlfoaaeelcmhiaaDoor.Pure
open Go.RowKit Go.Proofs.YtlfoaaeelcmhiaaDoor.G
open Go.Proofs.YtlfoaaeelcmhiaaDoorW.PrintWords hiding nums
set_option linter.unusedVariables false
set_option linter.unusedSimpArgs false
theorem same_l1 (l : List S30) (hl : l.length ≤ 17592186044416) (i : Nat) (hi : i < l.length) (hn : ∀ c ∈ l, c.f1.length ≤ 17592186044416) (K0 : Nat) (h0 : ∀ k, K0 ≤ k → inclinelaw21_same.l0 k l l ((i + 1 : Nat) : Int) = some true) :
    ∀ (d j : Nat), l[i].f1.length = j + d → ∀ k, K0 + d + 1 ≤ k → inclinelaw21_same.l1 k l l (i : Int) (j : Int) = some true := by
  have hni := hn _ (List.getElem_mem hi)
  intro d
  induction d with
  | zero =>
    intro j h1 k hk
    obtain ⟨k, rfl⟩ : ∃ m, k = m + 1 := ⟨k - 1, by omega⟩
    simp only [inclinelaw21_same.l1]
    rw [if_pos (by omega), if_pos (by omega), rdT_get _ _ hi, if_neg (by omega), w64 (by omega) (by omega)]
    exact h0 k (by omega)
  | succ d ih =>
    intro j h1 k hk
    obtain ⟨k, rfl⟩ : ∃ m, k = m + 1 := ⟨k - 1, by omega⟩
    have hj : j < l[i].f1.length := by omega
    simp only [inclinelaw21_same.l1]
    rw [if_pos (by omega), if_pos (by omega), rdT_get _ _ hi, if_pos (by omega), if_pos (by omega), if_pos (by omega), if_pos (by omega), if_pos trivial, w64 (by omega) (by omega)]
    exact ih (j + 1) (by omega) k (by omega)
theorem same_l0 (l : List S30) (hl : l.length ≤ 17592186044416) (hn : ∀ c ∈ l, c.f1.length ≤ 17592186044416) : ∀ (m i : Nat), l.length = i + m → ∃ K, ∀ k, K ≤ k → inclinelaw21_same.l0 k l l (i : Int) = some true := by
  intro m
  induction m with
  | zero =>
    intro i h1
    refine ⟨1, fun k hk => ?_⟩
    obtain ⟨k, rfl⟩ : ∃ m, k = m + 1 := ⟨k - 1, by omega⟩
    simp only [inclinelaw21_same.l0]
    rw [if_neg (by omega)]
  | succ m ih =>
    intro i h1
    have hi : i < l.length := by omega
    obtain ⟨K0, h0⟩ := ih (i + 1) (by omega)
    have hl1 := same_l1 l hl i hi hn K0 h0 l[i].f1.length 0 (by omega)
    refine ⟨K0 + l[i].f1.length + 3, fun k hk => ?_⟩
    obtain ⟨k, rfl⟩ : ∃ m, k = m + 2 := ⟨k - 2, by omega⟩
    simp only [inclinelaw21_same.l0, inclinelaw21_same.j1]
    rw [if_pos (by omega), if_pos (by omega), if_pos (by omega), if_pos trivial, if_neg (by simp)]
    exact hl1 k (by omega)
/-- Commands are the same as themselves. -/
theorem same_self (l : List S30) (hl : l.length ≤ 17592186044416) (hn : ∀ c ∈ l, c.f1.length ≤ 17592186044416) : ∃ K, ∀ k, K ≤ k → inclinelaw21_same.f k l l = some true := by
  obtain ⟨K, h⟩ := same_l0 l hl hn l.length 0 (by omega)
  refine ⟨K, fun k hk => ?_⟩
  unfold inclinelaw21_same.f
  rw [if_pos rfl]
  exact h k hk
end Go.Proofs.YtlfoaaeelcmhiaaDoor.Pure
end

section
-- Written by a program of this session (wip/gprint.py: the kit's print, with contracts proved by hand)
namespace Go.Proofs.YtlfoaaeelcmhiaaDoor.G
open Go.RowKit Go.Proofs.YtlfoaaeelcmhiaaDoorW.PrintWords Go.Proofs.YtlfoaaeelcmhiaaDoorW.PrintLast Go.Proofs.YtlfoaaeelcmhiaaDoorW.PrintMore
attribute [local go_sem] max2_int min2_int max_two min_two max_three min_three max_four min_four   -- for this text's walks alone
set_option linter.unusedVariables false
set_option linter.unusedSimpArgs false

/-! ### script_line: function 33 -/
def script_line.l0 : Nat → List Int → List Int → Int → Int → Option (ByteArray)
  | 0, _, _, _, _ => none
  | k + 1, x3, x6, x7, x8 => if x8 < x7 then (if 0 ≤ x8 then (if x8 < (x6.length : Int) then (if x8 > 0 then (if x3.length < 140737488355328 then ((strconv_AppendUint.f (x3 ++ [32]) (rd x6 x8) 10).bind fun t152 => (script_line.l0 k t152 x6 x7 (wrap64 (x8 + 1)))) else (none)) else ((strconv_AppendUint.f x3 (rd x6 x8) 10).bind fun t155 => (script_line.l0 k t155 x6 x7 (wrap64 (x8 + 1))))) else (none)) else (none)) else (some (strOfNums x3))
def script_line.f (k : Nat) (l0 : List Int) : Option (ByteArray) := script_line.l0 k ([] : List Int) l0 (l0.length : Int) 0
theorem script_line.mono_l : ∀ k, (∀ y0 y1 y2 y3, LeO (script_line.l0 k y0 y1 y2 y3) (script_line.l0 (k + 1) y0 y1 y2 y3))
  | 0 => fun _ _ _ _ r h => by simp [script_line.l0] at h
  | k + 1 => by
    have ih0 := script_line.mono_l k
    · intro y0 y1 y2 y3
      unfold script_line.l0
      repeat' first
      | (with_reducible exact ih0 _ _ _ _)
      | (with_reducible exact LeO.refl _)
      | (with_reducible exact LeO.none _)
      | (with_reducible refine LeO.ite ?_ ?_)
      | (with_reducible refine LeO.bind ?_ (fun _ => ?_))
      | exact ih0 _ _ _ _
      | exact LeO.none _
      | refine LeO.ite ?_ ?_
      | refine LeO.bind ?_ (fun _ => ?_)
theorem script_line.mono : ∀ a0 k, LeO (script_line.f k a0) (script_line.f (k + 1) a0) := by
  intro a0 k
  have ih0 := script_line.mono_l k
  unfold script_line.f
  repeat' first
      | (with_reducible exact ih0 _ _ _ _)
      | (with_reducible exact LeO.refl _)
      | (with_reducible exact LeO.none _)
      | (with_reducible refine LeO.ite ?_ ?_)
      | (with_reducible refine LeO.bind ?_ (fun _ => ?_))
      | exact ih0 _ _ _ _
      | exact LeO.none _
      | refine LeO.ite ?_ ?_
      | refine LeO.bind ?_ (fun _ => ?_)
set_option maxHeartbeats 8000000 in
set_option maxRecDepth 100000 in
theorem script_line.calls (k : Nat) (A0 : Option Addr) (c0 : Nat) (l0 : List Int) (r : ByteArray) (w : World) (hr0 : Kd.C (Kd.int .u64) w A0 l0.length l0) (hc0 : l0.length ≤ c0) (hT : Tabs w) (h : script_line.f k l0 = some r) :
    Calls Tryd.prog 33 #[.slice A0 l0.length c0] w fun e w' => e = .returned (.string r) ∧ Below w.heap.size w w' := by
  have HT := Aside0.mk hT
  clear hT
  have HR0 := Aside0.mk hr0
  have HC0 := Aside0.mk hc0
  clear hr0 hc0
  have HB := Aside0.mk (Below.refl w.heap.size w)
  have H : (script_line.l0 k ([] : List Int) l0 (l0.length : Int) 0) = some r := h
  clear h
  have H' := Aside0.mk H
  clear H
  go_enter Tryd.func33, Tryd.ntmps33
  go_wp2
  go_loopg [3, 8] k (fun kq v3 v8 w' => ∃ (x3_1 : List Int) (x8_1 : Int), v8 = .int .i64 x8_1 ∧ Aside0 (script_line.l0 kq x3_1 l0 (l0.length : Int) x8_1 = some r) ∧ Aside0 (kq ≤ k) ∧ Aside0 (Kd.R (Kd.int .u8) 5 w' w.heap.size (fun _ => True) v3 x3_1) ∧ Aside0 (Below w.heap.size w w'))
  case atStart => exact ⟨(([] : List Int)), (0), (by first | rfl | (simp; done) | (simp [*]; done)), H', ⟨Nat.le_refl _⟩, ⟨by first | exact Kd.R_nil _ _ _ _ _ | exact Kd.N_nil _ _ _ _ _ | exact Kd.V_nil _ _ _ _ _ | exact Kd.Q_nil _ _ _ _ _ | exact Kd.S_nil _ _ _ _ _⟩, ⟨by repeat (first | (with_reducible first | exact HB.out | apply below_alloc | apply pw_below_drewN | apply below_drew1) | exact HB.out)⟩⟩
  case round =>
    clear H'
    obtain ⟨x3_1, x8_1, rfl, HA, HK1, HO_3, HB⟩ := hrel
    cases gk with
    | zero => exact absurd HA.out (by simp [script_line.l0])
    | succ k1 =>
      have H := HA.out
      clear HA
      simp only [script_line.l0] at H
      by_cases c2 : x8_1 < (l0.length : Int)
      · rw [if_pos c2] at H
        have c2b0 : decide (x8_1 < (l0.length : Int)) = true := decide_eq_true c2
        clear c2
        by_cases c3 : 0 ≤ x8_1
        · rw [if_pos c3] at H
          have c3b0 : decide (0 ≤ x8_1) = true := decide_eq_true c3
          clear c3
          by_cases c4 : x8_1 < (l0.length : Int)
          · rw [if_pos c4] at H
            have c4b0 : decide (x8_1 < (l0.length : Int)) = true := decide_eq_true c4
            clear c4
            by_cases c5 : x8_1 > 0
            · rw [if_pos c5] at H
              have c5b0 : decide (0 < x8_1) = true := decide_eq_true c5
              clear c5
              by_cases c6 : x3_1.length < 140737488355328
              · rw [if_pos c6] at H
                have LMc6 := Aside0.mk c6
                clear c6
                obtain ⟨y149, hy149⟩ : ∃ y_ : List Int, y_ = (x3_1 ++ [32]) := ⟨_, rfl⟩
                replace H : ((strconv_AppendUint.f y149 (rd l0 x8_1) 10).bind fun t152 => (script_line.l0 k1 t152 l0 (l0.length : Int) (wrap64 (x8_1 + 1)))) = some r := by first | (rw [hy149]; with_reducible exact H) | (have H2_ := (Option.bind_some _ _).symm.trans H; rw [hy149]; with_reducible exact H2_) | (have H2_ := (Option.bind_some _ _).symm.trans H; with_reducible exact H2_) | with_reducible exact H | (rw [hy149]; exact H) | exact H
                have Ny149 := Aside0.mk hy149
                clear hy149
                replace H := Option.bind_eq_some_iff.mp H
                obtain ⟨t152, A70, H⟩ := H
                replace H : (script_line.l0 k1 t152 l0 (l0.length : Int) (wrap64 (x8_1 + 1))) = some r := H
                have A7 := Aside0.mk A70
                clear A70
                have H' := Aside0.mk H
                clear H
                have p148 : 0 ≤ (x8_1 : Int) := of_decide_eq_true (by first | (with_reducible assumption) | assumption)
                have q148 : x8_1 < (l0.length : Int) := of_decide_eq_true (by first | (with_reducible assumption) | assumption)
                obtain ⟨ad148, e148, hx148_0⟩ := Kd.at_int HR0.out x8_1 p148 q148
                cases e148
                replace hx148_0 := (HB.out.cell (World.block_lt_of_cell? w _ hx148_0)).trans hx148_0
                replace p148 := eq_true p148
                replace q148 := eq_true q148
                go_wp2_with (first | ((with_reducible refine gate_builtin (b := .append) (xs := #[.tmp 15, .tmp 16]) rfl ?_); at_builtin; refine Kd.R_append (Kd.int .u8) (w0 := w) w.heap.size rfl (.tmp 15) (.tmp 16) 47 5 (.int .u8 0) 1 rfl Tryd.underlying47 info5 rfl (by decide) (by omega) u3 x3_1 32 [.int .u8 32] (fun _ => True) (fun _ => False) rfl rfl ?aP (fun _ hk => hk.elim) ?aF ?aO ?aB ?aS ?aL ?_; (case aP => exact rfl); (case aB => exact (by repeat (first | (with_reducible first | exact HB.out | apply below_alloc | apply pw_below_drewN | apply below_drew1) | exact HB.out))); (case aF => exact (fun _ _ => trivial)); (case aO => exact (by (with_reducible repeat (first | apply Kd.R_alloc | apply Kd.R_drewN | apply Kd.R_drew)); exact HO_3.out)); (case aS => exact (below_size (by repeat (first | (with_reducible first | exact HB.out | apply below_alloc | apply pw_below_drewN | apply below_drew1) | exact HB.out)))); (case aL => have := LMc6.out; omega); intro v150 w8 ho hb hg hat; rw [← Ny149.out] at ho; have n0_ := Aside0.mk (hb); have n1_ := Aside0.mk (ho); clear HB; clear HO_3; have HB := n0_; have HO151 := n1_; clear n0_ n1_; clear ho hb hg hat; obtain ⟨Ao9, co9, eo9⟩ := Kd.R_slice HO151.out; subst eo9) | ((with_reducible refine gate_callee (f := 28) rfl ?_); refine goesL_ (some 20) rfl rfl Tryd.func28 (by kernel_rfl) rfl #[.slice Ao9 y149.length co9, .int .u64 (rd l0 x8_1), .int .i64 10] rfl (by (try simp only [List.map_toArray, List.map_cons, List.map_nil]); first | done | rfl | (simp only [List.length_drop, List.length_take]; rfl)) ?_; (with_reducible refine (strconv_AppendUint.calls (fun k_ => some k_ = (.slice Ao9 y149.length co9 : Value).ownBlock) (.slice Ao9 y149.length co9) y149 (rd l0 x8_1) 10 t152 w _ ?side1 ?side2 HT.out A7.out).mono ?_); (case side1 => repeat (first | (with_reducible first | exact HB.out | apply below_alloc | apply pw_below_drewN | apply below_drew1) | exact HB.out)); (case side2 => exact Kd.R_tight rfl HO151.out); rintro e w10 ⟨v153, rfl, ho0, hb, hkp⟩; refine ⟨_, rfl, ?_⟩; have n0_ := Aside0.mk (Kd.R_mono (ok' := fun k_ => True) ho0 (fun k_ hk_ => trivial)); have n1_ := Aside0.mk (hb); clear HB; clear HO151; have HO154 := n0_; have HB := n1_; clear n0_ n1_; (try clear hb); (try clear hkp); (try clear ho0)))
                go_roundg k1
                case measure => have := HK1.out; omega
                case rel => exact ⟨(t152), (wrap64 (x8_1 + 1)), (by first | rfl | (simp; done) | (simp [*]; done)), H', ⟨by have := HK1.out; omega⟩, ⟨by (with_reducible repeat (first | apply Kd.R_alloc | apply Kd.R_drewN | apply Kd.R_drew)); exact HO154.out⟩, ⟨by repeat (first | (with_reducible first | exact HB.out | apply below_alloc | apply pw_below_drewN | apply below_drew1) | exact HB.out)⟩⟩
              · rw [if_neg c6] at H
                exact absurd H (by simp)
            · rw [if_neg c5] at H
              have c5b0 : decide (0 < x8_1) = false := decide_eq_false c5
              clear c5
              replace H := Option.bind_eq_some_iff.mp H
              obtain ⟨t155, A110, H⟩ := H
              replace H : (script_line.l0 k1 t155 l0 (l0.length : Int) (wrap64 (x8_1 + 1))) = some r := H
              have A11 := Aside0.mk A110
              clear A110
              have H' := Aside0.mk H
              clear H
              have p148 : 0 ≤ (x8_1 : Int) := of_decide_eq_true (by first | (with_reducible assumption) | assumption)
              have q148 : x8_1 < (l0.length : Int) := of_decide_eq_true (by first | (with_reducible assumption) | assumption)
              obtain ⟨ad148, e148, hx148_0⟩ := Kd.at_int HR0.out x8_1 p148 q148
              cases e148
              replace hx148_0 := (HB.out.cell (World.block_lt_of_cell? w _ hx148_0)).trans hx148_0
              replace p148 := eq_true p148
              replace q148 := eq_true q148
              obtain ⟨Ao12, co12, eo12⟩ := Kd.R_slice HO_3.out
              subst eo12
              go_wp2_with (first | ((with_reducible refine gate_callee (f := 28) rfl ?_); refine goesL_ (some 20) rfl rfl Tryd.func28 (by kernel_rfl) rfl #[.slice Ao12 x3_1.length co12, .int .u64 (rd l0 x8_1), .int .i64 10] rfl (by (try simp only [List.map_toArray, List.map_cons, List.map_nil]); first | done | rfl | (simp only [List.length_drop, List.length_take]; rfl)) ?_; (with_reducible refine (strconv_AppendUint.calls (fun k_ => some k_ = (.slice Ao12 x3_1.length co12 : Value).ownBlock) (.slice Ao12 x3_1.length co12) x3_1 (rd l0 x8_1) 10 t155 w _ ?side1 ?side2 HT.out A11.out).mono ?_); (case side1 => repeat (first | (with_reducible first | exact HB.out | apply below_alloc | apply pw_below_drewN | apply below_drew1) | exact HB.out)); (case side2 => exact Kd.R_tight rfl HO_3.out); rintro e w13 ⟨v156, rfl, ho0, hb, hkp⟩; refine ⟨_, rfl, ?_⟩; have n0_ := Aside0.mk (Kd.R_mono (ok' := fun k_ => True) ho0 (fun k_ hk_ => trivial)); have n1_ := Aside0.mk (hb); clear HB; clear HO_3; have HO157 := n0_; have HB := n1_; clear n0_ n1_; (try clear hb); (try clear hkp); (try clear ho0)))
              go_roundg k1
              case measure => have := HK1.out; omega
              case rel => exact ⟨(t155), (wrap64 (x8_1 + 1)), (by first | rfl | (simp; done) | (simp [*]; done)), H', ⟨by have := HK1.out; omega⟩, ⟨by (with_reducible repeat (first | apply Kd.R_alloc | apply Kd.R_drewN | apply Kd.R_drew)); exact HO157.out⟩, ⟨by repeat (first | (with_reducible first | exact HB.out | apply below_alloc | apply pw_below_drewN | apply below_drew1) | exact HB.out)⟩⟩
          · rw [if_neg c4] at H
            exact absurd H (by simp)
        · rw [if_neg c3] at H
          exact absurd H (by simp)
      · rw [if_neg c2] at H
        have c2b0 : decide (x8_1 < (l0.length : Int)) = false := decide_eq_false c2
        clear c2
        obtain rfl := Option.some.inj H
        have hcv14 := own_string (P := Tryd.prog) Tryd.underlying47 Tryd.underlying5 Tryd.underlying9 (Kd.own_of_R HO_3.out)
        go_wp2
        go_ret
        exact ⟨by first | rfl | (simp [errW_none, errW_some] <;> rfl) | (simp [*, errW_none, errW_some] <;> rfl), by repeat (first | (with_reducible first | exact HB.out | apply below_alloc | apply pw_below_drewN | apply below_drew1) | exact HB.out)⟩

end Go.Proofs.YtlfoaaeelcmhiaaDoor.G
end

section
-- Written by a program of this session (wip/gprint.py: the kit's print, with contracts proved by hand)
namespace Go.Proofs.YtlfoaaeelcmhiaaDoor.G
open Go.RowKit Go.Proofs.YtlfoaaeelcmhiaaDoorW.PrintWords Go.Proofs.YtlfoaaeelcmhiaaDoorW.PrintLast Go.Proofs.YtlfoaaeelcmhiaaDoorW.PrintMore
attribute [local go_sem] max2_int min2_int max_two min_two max_three min_three max_four min_four   -- for this text's walks alone
set_option linter.unusedVariables false
set_option linter.unusedSimpArgs false

/-! ### script_Tell: function 20 -/
mutual
def script_Tell.j0 : Nat → Bool → Int → Int → Int → Int → Bool → Int → Int → Int → List (S50) → Option (ByteArray)
  | 0, _, _, _, _, _, _, _, _, _, _ => none
  | k + 1, x20, x159000, x159001, x159002, x160000, x160001, x160002, x160003, x160004, x160005 => if x20 = true then (some (⟨#[121, 101, 115]⟩ : ByteArray)) else (if x159000 = 2 then (some (⟨#[110, 111]⟩ : ByteArray)) else (if x159000 = 6 then ((strconv_Itoa.f x160004).bind fun t160 => (some t160)) else (if x159000 = 7 then (script_Tell.l0 k (([IntKind.u64.wrap ((x160005.length : Int))] : List Int)) x160005 (x160005.length : Int) 0) else (if x159000 < 3 then (script_Tell.j2 k true x159000 x159001 x159002 x160000 x160001 x160002 x160003 x160004 x160005) else (script_Tell.j2 k (decide (x159000 > 5)) x159000 x159001 x159002 x160000 x160001 x160002 x160003 x160004 x160005)))))
def script_Tell.l0 : Nat → List Int → List (S50) → Int → Int → Option (ByteArray)
  | 0, _, _, _, _ => none
  | k + 1, x5, x49, x50, x51 => if x51 < x50 then (if 0 ≤ x51 then (if x51 < (x49.length : Int) then ((some (([(rd_T50 x49 x51).f0, (rd_T50 x49 x51).f1] : List Int) : List Int)).bind fun y166 => (if x5.length + y166.length < 17592186044416 then (script_Tell.l0 k (x5 ++ y166) x49 x50 (wrap64 (x51 + 1))) else (none))) else (none)) else (none)) else ((script_line.f k x5).bind fun t172 => (some t172))
def script_Tell.j2 : Nat → Bool → Int → Int → Int → Int → Bool → Int → Int → Int → List (S50) → Option (ByteArray)
  | 0, _, _, _, _, _, _, _, _, _, _ => none
  | k + 1, x65, x159000, x159001, x159002, x160000, x160001, x160002, x160003, x160004, x160005 => if x65 = true then (some (⟨#[]⟩ : ByteArray)) else (if x160001 = true then (if x159000 = 3 then ((script_line.f k (([x160003] : List Int))).bind fun t176 => (some t176)) else ((script_line.f k (([x160002, x160003] : List Int))).bind fun t180 => (some t180))) else (some (⟨#[110, 111, 110, 101]⟩ : ByteArray)))
end
def script_Tell.f (k : Nat) (a0_0 : Int) (a0_1 : Int) (a0_2 : Int) (a1_0 : Int) (a1_1 : Bool) (a1_2 : Int) (a1_3 : Int) (a1_4 : Int) (l1_5 : List (S50)) : Option (ByteArray) := if a1_0 = 0 then (if a0_0 = 1 then (some (⟨#[111, 107]⟩ : ByteArray)) else (if a0_0 = 2 then (script_Tell.j0 k a1_1 a0_0 a0_1 a0_2 a1_0 a1_1 a1_2 a1_3 a1_4 l1_5) else (script_Tell.j0 k false a0_0 a0_1 a0_2 a1_0 a1_1 a1_2 a1_3 a1_4 l1_5))) else ((strconv_Itoa.f a1_0).bind fun t181 => (if 6 + t181.size ≤ 9223372036854775807 then (some ((⟨#[101, 114, 114, 111, 114, 32]⟩ : ByteArray) ++ t181)) else (none)))
theorem script_Tell.mono_l : ∀ k, (∀ y0 y1 y2 y3 y4 y5 y6 y7 y8 y9, LeO (script_Tell.j0 k y0 y1 y2 y3 y4 y5 y6 y7 y8 y9) (script_Tell.j0 (k + 1) y0 y1 y2 y3 y4 y5 y6 y7 y8 y9)) ∧ (∀ y0 y1 y2 y3, LeO (script_Tell.l0 k y0 y1 y2 y3) (script_Tell.l0 (k + 1) y0 y1 y2 y3)) ∧ (∀ y0 y1 y2 y3 y4 y5 y6 y7 y8 y9, LeO (script_Tell.j2 k y0 y1 y2 y3 y4 y5 y6 y7 y8 y9) (script_Tell.j2 (k + 1) y0 y1 y2 y3 y4 y5 y6 y7 y8 y9))
  | 0 => ⟨fun _ _ _ _ _ _ _ _ _ _ r h => by simp [script_Tell.j0] at h, fun _ _ _ _ r h => by simp [script_Tell.l0] at h, fun _ _ _ _ _ _ _ _ _ _ r h => by simp [script_Tell.j2] at h⟩
  | k + 1 => by
    obtain ⟨ih0, ih1, ih2⟩ := script_Tell.mono_l k
    refine ⟨?_, ?_, ?_⟩
    · intro y0 y1 y2 y3 y4 y5 y6 y7 y8 y9
      unfold script_Tell.j0
      repeat' first
      | (with_reducible exact ih0 _ _ _ _ _ _ _ _ _ _)
      | (with_reducible exact ih1 _ _ _ _)
      | (with_reducible exact ih2 _ _ _ _ _ _ _ _ _ _)
      | (with_reducible exact script_line.mono _ _)
      | (with_reducible exact LeO.refl _)
      | (with_reducible exact LeO.none _)
      | (with_reducible refine LeO.ite ?_ ?_)
      | (with_reducible refine LeO.bind ?_ (fun _ => ?_))
      | exact ih0 _ _ _ _ _ _ _ _ _ _
      | exact ih1 _ _ _ _
      | exact ih2 _ _ _ _ _ _ _ _ _ _
      | exact script_line.mono _ _
      | exact LeO.none _
      | refine LeO.ite ?_ ?_
      | refine LeO.bind ?_ (fun _ => ?_)
    · intro y0 y1 y2 y3
      unfold script_Tell.l0
      repeat' first
      | (with_reducible exact ih0 _ _ _ _ _ _ _ _ _ _)
      | (with_reducible exact ih1 _ _ _ _)
      | (with_reducible exact ih2 _ _ _ _ _ _ _ _ _ _)
      | (with_reducible exact script_line.mono _ _)
      | (with_reducible exact LeO.refl _)
      | (with_reducible exact LeO.none _)
      | (with_reducible refine LeO.ite ?_ ?_)
      | (with_reducible refine LeO.bind ?_ (fun _ => ?_))
      | exact ih0 _ _ _ _ _ _ _ _ _ _
      | exact ih1 _ _ _ _
      | exact ih2 _ _ _ _ _ _ _ _ _ _
      | exact script_line.mono _ _
      | exact LeO.none _
      | refine LeO.ite ?_ ?_
      | refine LeO.bind ?_ (fun _ => ?_)
    · intro y0 y1 y2 y3 y4 y5 y6 y7 y8 y9
      unfold script_Tell.j2
      repeat' first
      | (with_reducible exact ih0 _ _ _ _ _ _ _ _ _ _)
      | (with_reducible exact ih1 _ _ _ _)
      | (with_reducible exact ih2 _ _ _ _ _ _ _ _ _ _)
      | (with_reducible exact script_line.mono _ _)
      | (with_reducible exact LeO.refl _)
      | (with_reducible exact LeO.none _)
      | (with_reducible refine LeO.ite ?_ ?_)
      | (with_reducible refine LeO.bind ?_ (fun _ => ?_))
      | exact ih0 _ _ _ _ _ _ _ _ _ _
      | exact ih1 _ _ _ _
      | exact ih2 _ _ _ _ _ _ _ _ _ _
      | exact script_line.mono _ _
      | exact LeO.none _
      | refine LeO.ite ?_ ?_
      | refine LeO.bind ?_ (fun _ => ?_)
theorem script_Tell.mono : ∀ a0 a1 a2 a3 a4 a5 a6 a7 a8 k, LeO (script_Tell.f k a0 a1 a2 a3 a4 a5 a6 a7 a8) (script_Tell.f (k + 1) a0 a1 a2 a3 a4 a5 a6 a7 a8) := by
  intro a0 a1 a2 a3 a4 a5 a6 a7 a8 k
  obtain ⟨ih0, ih1, ih2⟩ := script_Tell.mono_l k
  unfold script_Tell.f
  repeat' first
      | (with_reducible exact ih0 _ _ _ _ _ _ _ _ _ _)
      | (with_reducible exact ih1 _ _ _ _)
      | (with_reducible exact ih2 _ _ _ _ _ _ _ _ _ _)
      | (with_reducible exact script_line.mono _ _)
      | (with_reducible exact LeO.refl _)
      | (with_reducible exact LeO.none _)
      | (with_reducible refine LeO.ite ?_ ?_)
      | (with_reducible refine LeO.bind ?_ (fun _ => ?_))
      | exact ih0 _ _ _ _ _ _ _ _ _ _
      | exact ih1 _ _ _ _
      | exact ih2 _ _ _ _ _ _ _ _ _ _
      | exact script_line.mono _ _
      | exact LeO.none _
      | refine LeO.ite ?_ ?_
      | refine LeO.bind ?_ (fun _ => ?_)
set_option maxHeartbeats 8000000 in
set_option maxRecDepth 100000 in
theorem script_Tell.calls (k : Nat) (a0_0 : Int) (a0_1 : Int) (a0_2 : Int) (a1_0 : Int) (a1_1 : Bool) (a1_2 : Int) (a1_3 : Int) (a1_4 : Int) (A1_5 : Option Addr) (c1_5 : Nat) (l1_5 : List (S50)) (r : ByteArray) (w : World) (hr1_5 : Kd.C k50 w A1_5 l1_5.length l1_5) (hc1_5 : l1_5.length ≤ c1_5) (hT : Tabs w) (h : script_Tell.f k a0_0 a0_1 a0_2 a1_0 a1_1 a1_2 a1_3 a1_4 l1_5 = some r) :
    Calls Tryd.prog 20 #[.agg #[.int .i64 a0_0, .int .u64 a0_1, .int .u64 a0_2], .agg #[.int .i64 a1_0, .bool a1_1, .int .u64 a1_2, .int .u64 a1_3, .int .i64 a1_4, .slice A1_5 l1_5.length c1_5]] w fun e w' => e = .returned (.string r) ∧ Below w.heap.size w w' := by
  have HT := Aside0.mk hT
  clear hT
  have hu38 := Tryd.underlying38
  have hu44 := Tryd.underlying44
  have hu50 := Tryd.underlying50
  have HR1_5 := Aside0.mk hr1_5
  have HC1_5 := Aside0.mk hc1_5
  clear hr1_5 hc1_5
  have HB := Aside0.mk (Below.refl w.heap.size w)
  have H : (if a1_0 = 0 then (if a0_0 = 1 then (some (⟨#[111, 107]⟩ : ByteArray)) else (if a0_0 = 2 then (script_Tell.j0 k a1_1 a0_0 a0_1 a0_2 a1_0 a1_1 a1_2 a1_3 a1_4 l1_5) else (script_Tell.j0 k false a0_0 a0_1 a0_2 a1_0 a1_1 a1_2 a1_3 a1_4 l1_5))) else ((strconv_Itoa.f a1_0).bind fun t181 => (if 6 + t181.size ≤ 9223372036854775807 then (some ((⟨#[101, 114, 114, 111, 114, 32]⟩ : ByteArray) ++ t181)) else (none)))) = some r := h
  clear h
  by_cases c3 : a1_0 = 0
  · rw [if_pos c3] at H
    have c3b0 : (a1_0 == 0) = true := beq_iff_eq.mpr c3
    have c3b1 : (a1_0 != 0) = false := bne_eq_false_iff_eq.mpr c3
    clear c3
    by_cases c4 : a0_0 = 1
    · rw [if_pos c4] at H
      have c4b0 : (a0_0 == 1) = true := beq_iff_eq.mpr c4
      have c4b1 : (a0_0 != 1) = false := bne_eq_false_iff_eq.mpr c4
      clear c4
      obtain rfl := Option.some.inj H
      go_enter Tryd.func20, Tryd.ntmps20
      go_wp2_with (first | ((with_reducible refine gate_dst (N := 2) rfl ?_); refine box_event ?hg (N := 2) ?hd (cs := #[.int .i64 a0_0, .int .u64 a0_1, .int .u64 a0_2]) (t := 38) ?hr ?_; (case hd => rfl); (case hg => rfl); (case hr => first | (go_simp; done) | (go_simp; rfl)); intro gb158 hg w5 hbox hb; have n0_ := Aside0.mk (below_step (by repeat (first | (with_reducible first | exact HB.out | apply below_alloc | apply pw_below_drewN | apply below_drew1) | exact HB.out)) hb); have n1_ := Aside0.mk (hbox); have n2_ := Aside0.mk ((by rw [hg]; exact (below_size (by repeat (first | (with_reducible first | exact HB.out | apply below_alloc | apply pw_below_drewN | apply below_drew1) | exact HB.out))) : w.heap.size ≤ gb158)); have n3_ := Aside0.mk ((by rw [hg]; exact (below_size (by repeat (first | (with_reducible first | exact HB.out | apply below_alloc | apply pw_below_drewN | apply below_drew1) | exact HB.out))) : w.heap.size ≤ gb158)); clear HB; have HB := n0_; have BK158 := n1_; have GW158 := n2_; have GE158 := n3_; clear n0_ n1_ n2_ n3_; clear hb hbox hg) | ((with_reducible refine gate_dst (N := 3) rfl ?_); refine box_event ?hg (N := 3) ?hd (cs := #[.int .i64 a1_0, .bool a1_1, .int .u64 a1_2, .int .u64 a1_3, .int .i64 a1_4, .slice A1_5 l1_5.length c1_5]) (t := 44) ?hr ?_; (case hd => rfl); (case hg => rfl); (case hr => first | (go_simp; done) | (go_simp; rfl)); intro gb159 hg w6 hbox hb; have n0_ := Aside0.mk (blk_below (g := gb158) (o := .cells #[.int .i64 a0_0, .int .u64 a0_1, .int .u64 a0_2] 38 (0, 0)) (by (with_reducible repeat (first | refine blk_drewN ?_ _ | refine blk_drew ?_ | refine blk_alloc ?_ _)); exact BK158.out) hb); have n1_ := Aside0.mk (below_step (by repeat (first | (with_reducible first | exact HB.out | apply below_alloc | apply pw_below_drewN | apply below_drew1 | refine below_set ?_ GE158.out) | exact HB.out)) hb); have n2_ := Aside0.mk (hbox); have n3_ := Aside0.mk ((by rw [hg]; exact (below_size (by repeat (first | (with_reducible first | exact HB.out | apply below_alloc | apply pw_below_drewN | apply below_drew1 | refine below_set ?_ GE158.out) | exact HB.out))) : w.heap.size ≤ gb159)); have n4_ := Aside0.mk ((by rw [hg]; exact (below_size (by repeat (first | (with_reducible first | exact HB.out | apply below_alloc | apply pw_below_drewN | apply below_drew1 | refine below_set ?_ GE158.out) | exact HB.out))) : w.heap.size ≤ gb159)); have n5_ := Aside0.mk ((by rw [hg]; exact Nat.ne_of_lt (blk_lt (g := gb158) (o := .cells #[.int .i64 a0_0, .int .u64 a0_1, .int .u64 a0_2] 38 (0, 0)) (by (with_reducible repeat (first | refine blk_drewN ?_ _ | refine blk_drew ?_ | refine blk_alloc ?_ _)); exact BK158.out)) : gb158 ≠ gb159)); have n6_ := Aside0.mk ((by rw [hg]; exact Nat.ne_of_gt (blk_lt (g := gb158) (o := .cells #[.int .i64 a0_0, .int .u64 a0_1, .int .u64 a0_2] 38 (0, 0)) (by (with_reducible repeat (first | refine blk_drewN ?_ _ | refine blk_drew ?_ | refine blk_alloc ?_ _)); exact BK158.out)) : gb159 ≠ gb158)); clear BK158; clear HB; have BK158 := n0_; have HB := n1_; have BK159 := n2_; have GW159 := n3_; have GE159 := n4_; have NB158_159 := n5_; have NB159_158 := n6_; clear n0_ n1_ n2_ n3_ n4_ n5_ n6_; clear hb hbox hg; have hnb7 := NB159_158.out; have hnc7 := NB158_159.out; have hcz8_0 : w6.cell? ⟨gb159, 0, none⟩ = some (.int .i64 a1_0) := (blk_cell BK159.out 0).trans rfl; have hcz8_1 : w6.cell? ⟨gb159, 1, none⟩ = some (.bool a1_1) := (blk_cell BK159.out 1).trans rfl; have hcz8_2 : w6.cell? ⟨gb159, 2, none⟩ = some (.int .u64 a1_2) := (blk_cell BK159.out 2).trans rfl; have hcz8_3 : w6.cell? ⟨gb159, 3, none⟩ = some (.int .u64 a1_3) := (blk_cell BK159.out 3).trans rfl; have hcz8_4 : w6.cell? ⟨gb159, 4, none⟩ = some (.int .i64 a1_4) := (blk_cell BK159.out 4).trans rfl; have hcz8_5 : w6.cell? ⟨gb159, 5, none⟩ = some (.slice A1_5 l1_5.length c1_5) := (blk_cell BK159.out 5).trans rfl; have hfz8_0 := blk_frozen BK159.out 0; have hfz8_1 := blk_frozen BK159.out 1; have hfz8_2 := blk_frozen BK159.out 2; have hfz8_3 := blk_frozen BK159.out 3; have hfz8_4 := blk_frozen BK159.out 4; have hfz8_5 := blk_frozen BK159.out 5; have hcz9_0 : w6.cell? ⟨gb158, 0, none⟩ = some (.int .i64 a0_0) := (blk_cell BK158.out 0).trans rfl; have hcz9_1 : w6.cell? ⟨gb158, 1, none⟩ = some (.int .u64 a0_1) := (blk_cell BK158.out 1).trans rfl; have hcz9_2 : w6.cell? ⟨gb158, 2, none⟩ = some (.int .u64 a0_2) := (blk_cell BK158.out 2).trans rfl; have hfz9_0 := blk_frozen BK158.out 0; have hfz9_1 := blk_frozen BK158.out 1; have hfz9_2 := blk_frozen BK158.out 2))
      go_ret
      exact ⟨by first | rfl | (simp [errW_none, errW_some] <;> rfl) | (simp [*, errW_none, errW_some] <;> rfl), by repeat (first | (with_reducible first | exact HB.out | apply below_alloc | apply pw_below_drewN | apply below_drew1 | refine below_set ?_ GE158.out | refine below_set ?_ GE159.out) | exact HB.out)⟩
    · rw [if_neg c4] at H
      have c4b0 : (a0_0 == 1) = false := beq_eq_false_iff_ne.mpr c4
      have c4b1 : (a0_0 != 1) = true := bne_iff_ne.mpr c4
      have HC10 := Aside0.mk H
      clear H
      go_enter Tryd.func20, Tryd.ntmps20
      go_upto_region 5 with (first | ((with_reducible refine gate_dst (N := 2) rfl ?_); refine box_event ?hg (N := 2) ?hd (cs := #[.int .i64 a0_0, .int .u64 a0_1, .int .u64 a0_2]) (t := 38) ?hr ?_; (case hd => rfl); (case hg => rfl); (case hr => first | (go_simp; done) | (go_simp; rfl)); intro gb158 hg w11 hbox hb; have n0_ := Aside0.mk (below_step (by repeat (first | (with_reducible first | exact HB.out | apply below_alloc | apply pw_below_drewN | apply below_drew1) | exact HB.out)) hb); have n1_ := Aside0.mk (hbox); have n2_ := Aside0.mk ((by rw [hg]; exact (below_size (by repeat (first | (with_reducible first | exact HB.out | apply below_alloc | apply pw_below_drewN | apply below_drew1) | exact HB.out))) : w.heap.size ≤ gb158)); have n3_ := Aside0.mk ((by rw [hg]; exact (below_size (by repeat (first | (with_reducible first | exact HB.out | apply below_alloc | apply pw_below_drewN | apply below_drew1) | exact HB.out))) : w.heap.size ≤ gb158)); clear HB; have HB := n0_; have BK158 := n1_; have GW158 := n2_; have GE158 := n3_; clear n0_ n1_ n2_ n3_; clear hb hbox hg) | ((with_reducible refine gate_dst (N := 3) rfl ?_); refine box_event ?hg (N := 3) ?hd (cs := #[.int .i64 a1_0, .bool a1_1, .int .u64 a1_2, .int .u64 a1_3, .int .i64 a1_4, .slice A1_5 l1_5.length c1_5]) (t := 44) ?hr ?_; (case hd => rfl); (case hg => rfl); (case hr => first | (go_simp; done) | (go_simp; rfl)); intro gb159 hg w12 hbox hb; have n0_ := Aside0.mk (blk_below (g := gb158) (o := .cells #[.int .i64 a0_0, .int .u64 a0_1, .int .u64 a0_2] 38 (0, 0)) (by (with_reducible repeat (first | refine blk_drewN ?_ _ | refine blk_drew ?_ | refine blk_alloc ?_ _)); exact BK158.out) hb); have n1_ := Aside0.mk (below_step (by repeat (first | (with_reducible first | exact HB.out | apply below_alloc | apply pw_below_drewN | apply below_drew1 | refine below_set ?_ GE158.out) | exact HB.out)) hb); have n2_ := Aside0.mk (hbox); have n3_ := Aside0.mk ((by rw [hg]; exact (below_size (by repeat (first | (with_reducible first | exact HB.out | apply below_alloc | apply pw_below_drewN | apply below_drew1 | refine below_set ?_ GE158.out) | exact HB.out))) : w.heap.size ≤ gb159)); have n4_ := Aside0.mk ((by rw [hg]; exact (below_size (by repeat (first | (with_reducible first | exact HB.out | apply below_alloc | apply pw_below_drewN | apply below_drew1 | refine below_set ?_ GE158.out) | exact HB.out))) : w.heap.size ≤ gb159)); have n5_ := Aside0.mk ((by rw [hg]; exact Nat.ne_of_lt (blk_lt (g := gb158) (o := .cells #[.int .i64 a0_0, .int .u64 a0_1, .int .u64 a0_2] 38 (0, 0)) (by (with_reducible repeat (first | refine blk_drewN ?_ _ | refine blk_drew ?_ | refine blk_alloc ?_ _)); exact BK158.out)) : gb158 ≠ gb159)); have n6_ := Aside0.mk ((by rw [hg]; exact Nat.ne_of_gt (blk_lt (g := gb158) (o := .cells #[.int .i64 a0_0, .int .u64 a0_1, .int .u64 a0_2] 38 (0, 0)) (by (with_reducible repeat (first | refine blk_drewN ?_ _ | refine blk_drew ?_ | refine blk_alloc ?_ _)); exact BK158.out)) : gb159 ≠ gb158)); clear BK158; clear HB; have BK158 := n0_; have HB := n1_; have BK159 := n2_; have GW159 := n3_; have GE159 := n4_; have NB158_159 := n5_; have NB159_158 := n6_; clear n0_ n1_ n2_ n3_ n4_ n5_ n6_; clear hb hbox hg; have hnb13 := NB159_158.out; have hnc13 := NB158_159.out; have hcz14_0 : w12.cell? ⟨gb159, 0, none⟩ = some (.int .i64 a1_0) := (blk_cell BK159.out 0).trans rfl; have hcz14_1 : w12.cell? ⟨gb159, 1, none⟩ = some (.bool a1_1) := (blk_cell BK159.out 1).trans rfl; have hcz14_2 : w12.cell? ⟨gb159, 2, none⟩ = some (.int .u64 a1_2) := (blk_cell BK159.out 2).trans rfl; have hcz14_3 : w12.cell? ⟨gb159, 3, none⟩ = some (.int .u64 a1_3) := (blk_cell BK159.out 3).trans rfl; have hcz14_4 : w12.cell? ⟨gb159, 4, none⟩ = some (.int .i64 a1_4) := (blk_cell BK159.out 4).trans rfl; have hcz14_5 : w12.cell? ⟨gb159, 5, none⟩ = some (.slice A1_5 l1_5.length c1_5) := (blk_cell BK159.out 5).trans rfl; have hfz14_0 := blk_frozen BK159.out 0; have hfz14_1 := blk_frozen BK159.out 1; have hfz14_2 := blk_frozen BK159.out 2; have hfz14_3 := blk_frozen BK159.out 3; have hfz14_4 := blk_frozen BK159.out 4; have hfz14_5 := blk_frozen BK159.out 5; have hcz15_0 : w12.cell? ⟨gb158, 0, none⟩ = some (.int .i64 a0_0) := (blk_cell BK158.out 0).trans rfl; have hcz15_1 : w12.cell? ⟨gb158, 1, none⟩ = some (.int .u64 a0_1) := (blk_cell BK158.out 1).trans rfl; have hcz15_2 : w12.cell? ⟨gb158, 2, none⟩ = some (.int .u64 a0_2) := (blk_cell BK158.out 2).trans rfl; have hfz15_0 := blk_frozen BK158.out 0; have hfz15_1 := blk_frozen BK158.out 1; have hfz15_2 := blk_frozen BK158.out 2))
      (try simp only [Act.put, List.setIfInBounds_toArray, List.set_cons_zero, List.set_cons_succ])
      go_cut [20] (fun v20 wc => ∃ (kq : Nat) (x20_9 : Bool), v20 = .bool x20_9 ∧ Aside0 (script_Tell.j0 kq x20_9 a0_0 a0_1 a0_2 a1_0 a1_1 a1_2 a1_3 a1_4 l1_5 = some r) ∧ Aside0 (kq ≤ k) ∧ Aside0 (wc.heap[gb158]? = some (.cells #[.int .i64 a0_0, .int .u64 a0_1, .int .u64 a0_2] 38 (0, 0))) ∧ Aside0 (wc.heap[gb159]? = some (.cells #[.int .i64 a1_0, .bool a1_1, .int .u64 a1_2, .int .u64 a1_3, .int .i64 a1_4, (.slice A1_5 l1_5.length c1_5)] 44 (0, 0))) ∧ Aside0 (Below w.heap.size w wc))
      case first =>
        have H := HC10.out
        clear HC10
        by_cases c16 : a0_0 = 2
        · rw [if_pos c16] at H
          have c16b0 : (a0_0 == 2) = true := beq_iff_eq.mpr c16
          have c16b1 : (a0_0 != 2) = false := bne_eq_false_iff_eq.mpr c16
          clear c16
          (first | rw [c16b0] | (simp only [i64_w, i32_w]; rw [c16b0]) | skip)
          have H' := Aside0.mk H
          clear H
          have hnb17 := NB158_159.out
          have hnc17 := NB159_158.out
          have hcz18_0 : w12.cell? ⟨gb158, 0, none⟩ = some (.int .i64 a0_0) := (blk_cell BK158.out 0).trans rfl
          have hcz18_1 : w12.cell? ⟨gb158, 1, none⟩ = some (.int .u64 a0_1) := (blk_cell BK158.out 1).trans rfl
          have hcz18_2 : w12.cell? ⟨gb158, 2, none⟩ = some (.int .u64 a0_2) := (blk_cell BK158.out 2).trans rfl
          have hfz18_0 := blk_frozen BK158.out 0
          have hfz18_1 := blk_frozen BK158.out 1
          have hfz18_2 := blk_frozen BK158.out 2
          have hcz19_0 : w12.cell? ⟨gb159, 0, none⟩ = some (.int .i64 a1_0) := (blk_cell BK159.out 0).trans rfl
          have hcz19_1 : w12.cell? ⟨gb159, 1, none⟩ = some (.bool a1_1) := (blk_cell BK159.out 1).trans rfl
          have hcz19_2 : w12.cell? ⟨gb159, 2, none⟩ = some (.int .u64 a1_2) := (blk_cell BK159.out 2).trans rfl
          have hcz19_3 : w12.cell? ⟨gb159, 3, none⟩ = some (.int .u64 a1_3) := (blk_cell BK159.out 3).trans rfl
          have hcz19_4 : w12.cell? ⟨gb159, 4, none⟩ = some (.int .i64 a1_4) := (blk_cell BK159.out 4).trans rfl
          have hcz19_5 : w12.cell? ⟨gb159, 5, none⟩ = some (.slice A1_5 l1_5.length c1_5) := (blk_cell BK159.out 5).trans rfl
          have hfz19_0 := blk_frozen BK159.out 0
          have hfz19_1 := blk_frozen BK159.out 1
          have hfz19_2 := blk_frozen BK159.out 2
          have hfz19_3 := blk_frozen BK159.out 3
          have hfz19_4 := blk_frozen BK159.out 4
          have hfz19_5 := blk_frozen BK159.out 5
          go_wp2
          go_meet
          case rel => exact ⟨_, (a1_1), (by first | rfl | (simp; done) | (simp [*]; done)), H', ⟨by first | omega | exact Nat.le_refl _⟩, ⟨by (with_reducible repeat (first | refine blk_drewN ?_ _ | refine blk_drew ?_ | refine blk_alloc ?_ _)); exact BK158.out⟩, ⟨by (with_reducible repeat (first | refine blk_drewN ?_ _ | refine blk_drew ?_ | refine blk_alloc ?_ _)); exact BK159.out⟩, ⟨by repeat (first | (with_reducible first | exact HB.out | apply below_alloc | apply pw_below_drewN | apply below_drew1 | refine below_set ?_ GE158.out | refine below_set ?_ GE159.out) | exact HB.out)⟩⟩
        · rw [if_neg c16] at H
          have c16b0 : (a0_0 == 2) = false := beq_eq_false_iff_ne.mpr c16
          have c16b1 : (a0_0 != 2) = true := bne_iff_ne.mpr c16
          (first | rw [c16b0] | (simp only [i64_w, i32_w]; rw [c16b0]) | skip)
          have H' := Aside0.mk H
          clear H
          have hnb20 := NB158_159.out
          have hnc20 := NB159_158.out
          have hcz21_0 : w12.cell? ⟨gb158, 0, none⟩ = some (.int .i64 a0_0) := (blk_cell BK158.out 0).trans rfl
          have hcz21_1 : w12.cell? ⟨gb158, 1, none⟩ = some (.int .u64 a0_1) := (blk_cell BK158.out 1).trans rfl
          have hcz21_2 : w12.cell? ⟨gb158, 2, none⟩ = some (.int .u64 a0_2) := (blk_cell BK158.out 2).trans rfl
          have hfz21_0 := blk_frozen BK158.out 0
          have hfz21_1 := blk_frozen BK158.out 1
          have hfz21_2 := blk_frozen BK158.out 2
          go_wp2
          go_meet
          case rel => exact ⟨_, (false), (by first | rfl | (simp; done) | (simp [*]; done)), H', ⟨by first | omega | exact Nat.le_refl _⟩, ⟨by (with_reducible repeat (first | refine blk_drewN ?_ _ | refine blk_drew ?_ | refine blk_alloc ?_ _)); exact BK158.out⟩, ⟨by (with_reducible repeat (first | refine blk_drewN ?_ _ | refine blk_drew ?_ | refine blk_alloc ?_ _)); exact BK159.out⟩, ⟨by repeat (first | (with_reducible first | exact HB.out | apply below_alloc | apply pw_below_drewN | apply below_drew1 | refine below_set ?_ GE158.out | refine below_set ?_ GE159.out) | exact HB.out)⟩⟩
      case rest =>
        clear HC10
        try clear c1
        try clear c2
        try clear p2
        try clear c3
        try clear c3b0
        try clear c3b1
        try clear c4
        try clear c4b0
        try clear c4b1
        try clear c7
        try clear c13
        try clear c16
        try clear c16b0
        try clear c16b1
        try clear c17
        try clear c20
        try clear hcz14_0
        try clear hcz14_1
        try clear hcz14_2
        try clear hcz14_3
        try clear hcz14_4
        try clear hcz14_5
        try clear hcz15_0
        try clear hcz15_1
        try clear hcz15_2
        try clear hcz18_0
        try clear hcz18_1
        try clear hcz18_2
        try clear hcz19_0
        try clear hcz19_1
        try clear hcz19_2
        try clear hcz19_3
        try clear hcz19_4
        try clear hcz19_5
        try clear hcz21_0
        try clear hcz21_1
        try clear hcz21_2
        try clear hcz8_0
        try clear hcz8_1
        try clear hcz8_2
        try clear hcz8_3
        try clear hcz8_4
        try clear hcz8_5
        try clear hcz9_0
        try clear hcz9_1
        try clear hcz9_2
        try clear hfz14_0
        try clear hfz14_1
        try clear hfz14_2
        try clear hfz14_3
        try clear hfz14_4
        try clear hfz14_5
        try clear hfz15_0
        try clear hfz15_1
        try clear hfz15_2
        try clear hfz18_0
        try clear hfz18_1
        try clear hfz18_2
        try clear hfz19_0
        try clear hfz19_1
        try clear hfz19_2
        try clear hfz19_3
        try clear hfz19_4
        try clear hfz19_5
        try clear hfz21_0
        try clear hfz21_1
        try clear hfz21_2
        try clear hfz8_0
        try clear hfz8_1
        try clear hfz8_2
        try clear hfz8_3
        try clear hfz8_4
        try clear hfz8_5
        try clear hfz9_0
        try clear hfz9_1
        try clear hfz9_2
        obtain ⟨kq, x20_9, rfl, HA, HJ9, BK158, BK159, HB⟩ := hcut
        cases kq with
        | zero => exact absurd HA.out (by simp [script_Tell.j0])
        | succ kj9 =>
          have H := HA.out
          clear HA
          simp only [script_Tell.j0] at H
          by_cases c22 : x20_9 = true
          · subst c22
            have H1 : (some (⟨#[121, 101, 115]⟩ : ByteArray)) = some r := by rw [if_pos rfl] at H; exact H
            clear H
            have H := H1
            clear H1
            obtain rfl := Option.some.inj H
            go_wp2
            go_ret
            exact ⟨by first | rfl | (simp [errW_none, errW_some] <;> rfl) | (simp [*, errW_none, errW_some] <;> rfl), by repeat (first | (with_reducible first | exact HB.out | apply below_alloc | apply pw_below_drewN | apply below_drew1 | refine below_set ?_ GE158.out | refine below_set ?_ GE159.out) | exact HB.out)⟩
          · replace c22 := Bool.eq_false_iff.mpr c22
            subst c22
            have H1 : (if a0_0 = 2 then (some (⟨#[110, 111]⟩ : ByteArray)) else (if a0_0 = 6 then ((strconv_Itoa.f a1_4).bind fun t160 => (some t160)) else (if a0_0 = 7 then (script_Tell.l0 kj9 (([IntKind.u64.wrap ((l1_5.length : Int))] : List Int)) l1_5 (l1_5.length : Int) 0) else (if a0_0 < 3 then (script_Tell.j2 kj9 true a0_0 a0_1 a0_2 a1_0 a1_1 a1_2 a1_3 a1_4 l1_5) else (script_Tell.j2 kj9 (decide (a0_0 > 5)) a0_0 a0_1 a0_2 a1_0 a1_1 a1_2 a1_3 a1_4 l1_5))))) = some r := by rw [if_neg (show ¬ (false = true) by decide)] at H; exact H
            clear H
            have H := H1
            clear H1
            by_cases c23 : a0_0 = 2
            · rw [if_pos c23] at H
              have c23b0 : (a0_0 == 2) = true := beq_iff_eq.mpr c23
              have c23b1 : (a0_0 != 2) = false := bne_eq_false_iff_eq.mpr c23
              clear c23
              obtain rfl := Option.some.inj H
              have hnb24 := NB158_159.out
              have hnc24 := NB159_158.out
              have hcz25_0 : wc.cell? ⟨gb158, 0, none⟩ = some (.int .i64 a0_0) := (blk_cell BK158.out 0).trans rfl
              have hcz25_1 : wc.cell? ⟨gb158, 1, none⟩ = some (.int .u64 a0_1) := (blk_cell BK158.out 1).trans rfl
              have hcz25_2 : wc.cell? ⟨gb158, 2, none⟩ = some (.int .u64 a0_2) := (blk_cell BK158.out 2).trans rfl
              have hfz25_0 := blk_frozen BK158.out 0
              have hfz25_1 := blk_frozen BK158.out 1
              have hfz25_2 := blk_frozen BK158.out 2
              go_wp2
              go_ret
              exact ⟨by first | rfl | (simp [errW_none, errW_some] <;> rfl) | (simp [*, errW_none, errW_some] <;> rfl), by repeat (first | (with_reducible first | exact HB.out | apply below_alloc | apply pw_below_drewN | apply below_drew1 | refine below_set ?_ GE158.out | refine below_set ?_ GE159.out) | exact HB.out)⟩
            · rw [if_neg c23] at H
              have c23b0 : (a0_0 == 2) = false := beq_eq_false_iff_ne.mpr c23
              have c23b1 : (a0_0 != 2) = true := bne_iff_ne.mpr c23
              by_cases c26 : a0_0 = 6
              · rw [if_pos c26] at H
                have c26b0 : (a0_0 == 6) = true := beq_iff_eq.mpr c26
                have c26b1 : (a0_0 != 6) = false := bne_eq_false_iff_eq.mpr c26
                clear c26
                replace H := Option.bind_eq_some_iff.mp H
                obtain ⟨t160, A270, H⟩ := H
                replace H : (some t160) = some r := H
                have A27 := Aside0.mk A270
                clear A270
                obtain rfl := Option.some.inj H
                have hnb28 := NB158_159.out
                have hnc28 := NB159_158.out
                have hcz29_0 : wc.cell? ⟨gb158, 0, none⟩ = some (.int .i64 a0_0) := (blk_cell BK158.out 0).trans rfl
                have hcz29_1 : wc.cell? ⟨gb158, 1, none⟩ = some (.int .u64 a0_1) := (blk_cell BK158.out 1).trans rfl
                have hcz29_2 : wc.cell? ⟨gb158, 2, none⟩ = some (.int .u64 a0_2) := (blk_cell BK158.out 2).trans rfl
                have hfz29_0 := blk_frozen BK158.out 0
                have hfz29_1 := blk_frozen BK158.out 1
                have hfz29_2 := blk_frozen BK158.out 2
                have hcz30_0 : wc.cell? ⟨gb159, 0, none⟩ = some (.int .i64 a1_0) := (blk_cell BK159.out 0).trans rfl
                have hcz30_1 : wc.cell? ⟨gb159, 1, none⟩ = some (.bool a1_1) := (blk_cell BK159.out 1).trans rfl
                have hcz30_2 : wc.cell? ⟨gb159, 2, none⟩ = some (.int .u64 a1_2) := (blk_cell BK159.out 2).trans rfl
                have hcz30_3 : wc.cell? ⟨gb159, 3, none⟩ = some (.int .u64 a1_3) := (blk_cell BK159.out 3).trans rfl
                have hcz30_4 : wc.cell? ⟨gb159, 4, none⟩ = some (.int .i64 a1_4) := (blk_cell BK159.out 4).trans rfl
                have hcz30_5 : wc.cell? ⟨gb159, 5, none⟩ = some (.slice A1_5 l1_5.length c1_5) := (blk_cell BK159.out 5).trans rfl
                have hfz30_0 := blk_frozen BK159.out 0
                have hfz30_1 := blk_frozen BK159.out 1
                have hfz30_2 := blk_frozen BK159.out 2
                have hfz30_3 := blk_frozen BK159.out 3
                have hfz30_4 := blk_frozen BK159.out 4
                have hfz30_5 := blk_frozen BK159.out 5
                go_wp2_with (first | ((with_reducible refine gate_callee (f := 32) rfl ?_); refine goesL_ (some 38) rfl rfl Tryd.func32 (by kernel_rfl) rfl #[.int .i64 a1_4] rfl (by (try simp only [List.map_toArray, List.map_cons, List.map_nil]); first | done | rfl | (simp only [List.length_drop, List.length_take]; rfl)) ?_; (with_reducible refine (strconv_Itoa.calls a1_4 t160 _ ?sideT A27.out).mono ?_); (case sideT => exact Tabs.keep HT.out (by repeat (first | (with_reducible first | exact HB.out | apply below_alloc | apply pw_below_drewN | apply below_drew1) | exact HB.out))); rintro e w31 ⟨rfl, hb⟩; refine ⟨_, rfl, ?_⟩; have n0_ := Aside0.mk (blk_below (g := gb158) (o := .cells #[.int .i64 a0_0, .int .u64 a0_1, .int .u64 a0_2] 38 (0, 0)) (by (with_reducible repeat (first | refine blk_drewN ?_ _ | refine blk_drew ?_ | refine blk_alloc ?_ _)); exact BK158.out) hb); have n1_ := Aside0.mk (blk_below (g := gb159) (o := .cells #[.int .i64 a1_0, .bool a1_1, .int .u64 a1_2, .int .u64 a1_3, .int .i64 a1_4, .slice A1_5 l1_5.length c1_5] 44 (0, 0)) (by (with_reducible repeat (first | refine blk_drewN ?_ _ | refine blk_drew ?_ | refine blk_alloc ?_ _)); exact BK159.out) hb); have n2_ := Aside0.mk (below_step (by repeat (first | (with_reducible first | exact HB.out | apply below_alloc | apply pw_below_drewN | apply below_drew1 | refine below_set ?_ GE158.out | refine below_set ?_ GE159.out) | exact HB.out)) hb); clear BK158; clear BK159; clear HB; have BK158 := n0_; have BK159 := n1_; have HB := n2_; clear n0_ n1_ n2_; (try clear hb); (try clear hb2); (try clear hk); (try clear hi)))
                go_ret
                exact ⟨by first | rfl | (simp [errW_none, errW_some] <;> rfl) | (simp [*, errW_none, errW_some] <;> rfl), by repeat (first | (with_reducible first | exact HB.out | apply below_alloc | apply pw_below_drewN | apply below_drew1 | refine below_set ?_ GE158.out | refine below_set ?_ GE159.out) | exact HB.out)⟩
              · rw [if_neg c26] at H
                have c26b0 : (a0_0 == 6) = false := beq_eq_false_iff_ne.mpr c26
                have c26b1 : (a0_0 != 6) = true := bne_iff_ne.mpr c26
                by_cases c32 : a0_0 = 7
                · rw [if_pos c32] at H
                  have c32b0 : (a0_0 == 7) = true := beq_iff_eq.mpr c32
                  have c32b1 : (a0_0 != 7) = false := bne_eq_false_iff_eq.mpr c32
                  clear c32
                  obtain ⟨y161, hy161⟩ : ∃ y_ : List Int, y_ = (([IntKind.u64.wrap ((l1_5.length : Int))] : List Int)) := ⟨_, rfl⟩
                  replace H : (script_Tell.l0 kj9 y161 l1_5 (l1_5.length : Int) 0) = some r := by first | (rw [hy161]; with_reducible exact H) | (have H2_ := (Option.bind_some _ _).symm.trans H; rw [hy161]; with_reducible exact H2_) | (have H2_ := (Option.bind_some _ _).symm.trans H; with_reducible exact H2_) | with_reducible exact H | (rw [hy161]; exact H) | exact H
                  have Ny161 := Aside0.mk hy161
                  clear hy161
                  have H' := Aside0.mk H
                  clear H
                  have hnb33 := NB158_159.out
                  have hnc33 := NB159_158.out
                  have hcz34_0 : wc.cell? ⟨gb158, 0, none⟩ = some (.int .i64 a0_0) := (blk_cell BK158.out 0).trans rfl
                  have hcz34_1 : wc.cell? ⟨gb158, 1, none⟩ = some (.int .u64 a0_1) := (blk_cell BK158.out 1).trans rfl
                  have hcz34_2 : wc.cell? ⟨gb158, 2, none⟩ = some (.int .u64 a0_2) := (blk_cell BK158.out 2).trans rfl
                  have hfz34_0 := blk_frozen BK158.out 0
                  have hfz34_1 := blk_frozen BK158.out 1
                  have hfz34_2 := blk_frozen BK158.out 2
                  have hcz35_0 : wc.cell? ⟨gb159, 0, none⟩ = some (.int .i64 a1_0) := (blk_cell BK159.out 0).trans rfl
                  have hcz35_1 : wc.cell? ⟨gb159, 1, none⟩ = some (.bool a1_1) := (blk_cell BK159.out 1).trans rfl
                  have hcz35_2 : wc.cell? ⟨gb159, 2, none⟩ = some (.int .u64 a1_2) := (blk_cell BK159.out 2).trans rfl
                  have hcz35_3 : wc.cell? ⟨gb159, 3, none⟩ = some (.int .u64 a1_3) := (blk_cell BK159.out 3).trans rfl
                  have hcz35_4 : wc.cell? ⟨gb159, 4, none⟩ = some (.int .i64 a1_4) := (blk_cell BK159.out 4).trans rfl
                  have hcz35_5 : wc.cell? ⟨gb159, 5, none⟩ = some (.slice A1_5 l1_5.length c1_5) := (blk_cell BK159.out 5).trans rfl
                  have hfz35_0 := blk_frozen BK159.out 0
                  have hfz35_1 := blk_frozen BK159.out 1
                  have hfz35_2 := blk_frozen BK159.out 2
                  have hfz35_3 := blk_frozen BK159.out 3
                  have hfz35_4 := blk_frozen BK159.out 4
                  have hfz35_5 := blk_frozen BK159.out 5
                  go_wp2_with (first | ((with_reducible refine gate_dst (N := 47) rfl ?_); refine Kd.R_lit (Kd.int .u64) _ 31 ?hg (N := 47) ?hd (xs := ([IntKind.u64.wrap ((l1_5.length : Int))] : List Int)) (inner := [.int .u64 (IntKind.u64.wrap ((l1_5.length : Int)))]) (ok := fun _ => True) (okp := fun _ => True) ?hr ?hp (fun _ hk => hk) trivial (Below.refl _ _) (Nat.le_refl _) (by simp) ?_; (case hd => rfl); (case hg => rfl); (case hr => first | (go_simp; done) | (go_simp; rfl)); (case hp => exact (Reps.one (show Kd.M (Kd.int .u64) _ _ _ (IntKind.u64.wrap ((l1_5.length : Int))) [.int .u64 (IntKind.u64.wrap ((l1_5.length : Int)))] from rfl) (Reps.none _ _))); intro v162 w36 ho37 hb hg_ hnew_; clear hg_ hnew_; (first | rw [← Ny161.out] at ho37 | (simp only [Int.reduceToNat] at ho37; rw [← Ny161.out] at ho37)); have n0_ := Aside0.mk (Kd.R_lower ho37 (below_size (by repeat (first | (with_reducible first | exact HB.out | apply below_alloc | apply pw_below_drewN | apply below_drew1 | refine below_set ?_ GE158.out | refine below_set ?_ GE159.out) | exact HB.out)))); have n1_ := Aside0.mk (blk_below (g := gb158) (o := .cells #[.int .i64 a0_0, .int .u64 a0_1, .int .u64 a0_2] 38 (0, 0)) (by (with_reducible repeat (first | refine blk_drewN ?_ _ | refine blk_drew ?_ | refine blk_alloc ?_ _)); exact BK158.out) hb); have n2_ := Aside0.mk (blk_below (g := gb159) (o := .cells #[.int .i64 a1_0, .bool a1_1, .int .u64 a1_2, .int .u64 a1_3, .int .i64 a1_4, .slice A1_5 l1_5.length c1_5] 44 (0, 0)) (by (with_reducible repeat (first | refine blk_drewN ?_ _ | refine blk_drew ?_ | refine blk_alloc ?_ _)); exact BK159.out) hb); have n3_ := Aside0.mk (below_step (by repeat (first | (with_reducible first | exact HB.out | apply below_alloc | apply pw_below_drewN | apply below_drew1 | refine below_set ?_ GE158.out | refine below_set ?_ GE159.out) | exact HB.out)) hb); clear BK158; clear BK159; clear HB; have HO163 := n0_; have BK158 := n1_; have BK159 := n2_; have HB := n3_; clear n0_ n1_ n2_ n3_; clear hb ho37; have hcz38_0 : w36.cell? ⟨gb159, 0, none⟩ = some (.int .i64 a1_0) := (blk_cell BK159.out 0).trans rfl; have hcz38_1 : w36.cell? ⟨gb159, 1, none⟩ = some (.bool a1_1) := (blk_cell BK159.out 1).trans rfl; have hcz38_2 : w36.cell? ⟨gb159, 2, none⟩ = some (.int .u64 a1_2) := (blk_cell BK159.out 2).trans rfl; have hcz38_3 : w36.cell? ⟨gb159, 3, none⟩ = some (.int .u64 a1_3) := (blk_cell BK159.out 3).trans rfl; have hcz38_4 : w36.cell? ⟨gb159, 4, none⟩ = some (.int .i64 a1_4) := (blk_cell BK159.out 4).trans rfl; have hcz38_5 : w36.cell? ⟨gb159, 5, none⟩ = some (.slice A1_5 l1_5.length c1_5) := (blk_cell BK159.out 5).trans rfl; have hfz38_0 := blk_frozen BK159.out 0; have hfz38_1 := blk_frozen BK159.out 1; have hfz38_2 := blk_frozen BK159.out 2; have hfz38_3 := blk_frozen BK159.out 3; have hfz38_4 := blk_frozen BK159.out 4; have hfz38_5 := blk_frozen BK159.out 5))
                  go_loopg [5, 51] kj9 (fun kq v5 v51 w' => ∃ (x5_2 : List Int) (x51_2 : Int), v51 = .int .i64 x51_2 ∧ Aside0 (script_Tell.l0 kq x5_2 l1_5 (l1_5.length : Int) x51_2 = some r) ∧ Aside0 (kq ≤ kj9) ∧ Aside0 (Kd.R (Kd.int .u64) 31 w' w.heap.size (fun _ => True) v5 x5_2) ∧ Aside0 (w'.heap[gb158]? = some (.cells #[.int .i64 a0_0, .int .u64 a0_1, .int .u64 a0_2] 38 (0, 0))) ∧ Aside0 (w'.heap[gb159]? = some (.cells #[.int .i64 a1_0, .bool a1_1, .int .u64 a1_2, .int .u64 a1_3, .int .i64 a1_4, (.slice A1_5 l1_5.length c1_5)] 44 (0, 0))) ∧ Aside0 (Below w.heap.size w w'))
                  case atStart => exact ⟨(y161), (0), (by first | rfl | (simp; done) | (simp [*]; done)), H', ⟨Nat.le_refl _⟩, ⟨by (with_reducible repeat (first | apply Kd.R_alloc | apply Kd.R_drewN | apply Kd.R_drew)); exact HO163.out⟩, ⟨by (with_reducible repeat (first | refine blk_drewN ?_ _ | refine blk_drew ?_ | refine blk_alloc ?_ _)); exact BK158.out⟩, ⟨by (with_reducible repeat (first | refine blk_drewN ?_ _ | refine blk_drew ?_ | refine blk_alloc ?_ _)); exact BK159.out⟩, ⟨by repeat (first | (with_reducible first | exact HB.out | apply below_alloc | apply pw_below_drewN | apply below_drew1 | refine below_set ?_ GE158.out | refine below_set ?_ GE159.out) | exact HB.out)⟩⟩
                  case round =>
                    clear H'
                    try clear c1
                    try clear c2
                    try clear p2
                    try clear c3
                    try clear c3b0
                    try clear c3b1
                    try clear c4
                    try clear c4b0
                    try clear c4b1
                    try clear c7
                    try clear c13
                    try clear c16
                    try clear c16b0
                    try clear c16b1
                    try clear c17
                    try clear c20
                    try clear c22
                    try clear c23
                    try clear c23b0
                    try clear c23b1
                    try clear c24
                    try clear c26
                    try clear c26b0
                    try clear c26b1
                    try clear c28
                    try clear c32
                    try clear c32b0
                    try clear c32b1
                    try clear c33
                    try clear hcz14_0
                    try clear hcz14_1
                    try clear hcz14_2
                    try clear hcz14_3
                    try clear hcz14_4
                    try clear hcz14_5
                    try clear hcz15_0
                    try clear hcz15_1
                    try clear hcz15_2
                    try clear hcz18_0
                    try clear hcz18_1
                    try clear hcz18_2
                    try clear hcz19_0
                    try clear hcz19_1
                    try clear hcz19_2
                    try clear hcz19_3
                    try clear hcz19_4
                    try clear hcz19_5
                    try clear hcz21_0
                    try clear hcz21_1
                    try clear hcz21_2
                    try clear hcz25_0
                    try clear hcz25_1
                    try clear hcz25_2
                    try clear hcz29_0
                    try clear hcz29_1
                    try clear hcz29_2
                    try clear hcz30_0
                    try clear hcz30_1
                    try clear hcz30_2
                    try clear hcz30_3
                    try clear hcz30_4
                    try clear hcz30_5
                    try clear hcz34_0
                    try clear hcz34_1
                    try clear hcz34_2
                    try clear hcz35_0
                    try clear hcz35_1
                    try clear hcz35_2
                    try clear hcz35_3
                    try clear hcz35_4
                    try clear hcz35_5
                    try clear hcz38_0
                    try clear hcz38_1
                    try clear hcz38_2
                    try clear hcz38_3
                    try clear hcz38_4
                    try clear hcz38_5
                    try clear hcz8_0
                    try clear hcz8_1
                    try clear hcz8_2
                    try clear hcz8_3
                    try clear hcz8_4
                    try clear hcz8_5
                    try clear hcz9_0
                    try clear hcz9_1
                    try clear hcz9_2
                    try clear hfz14_0
                    try clear hfz14_1
                    try clear hfz14_2
                    try clear hfz14_3
                    try clear hfz14_4
                    try clear hfz14_5
                    try clear hfz15_0
                    try clear hfz15_1
                    try clear hfz15_2
                    try clear hfz18_0
                    try clear hfz18_1
                    try clear hfz18_2
                    try clear hfz19_0
                    try clear hfz19_1
                    try clear hfz19_2
                    try clear hfz19_3
                    try clear hfz19_4
                    try clear hfz19_5
                    try clear hfz21_0
                    try clear hfz21_1
                    try clear hfz21_2
                    try clear hfz25_0
                    try clear hfz25_1
                    try clear hfz25_2
                    try clear hfz29_0
                    try clear hfz29_1
                    try clear hfz29_2
                    try clear hfz30_0
                    try clear hfz30_1
                    try clear hfz30_2
                    try clear hfz30_3
                    try clear hfz30_4
                    try clear hfz30_5
                    try clear hfz34_0
                    try clear hfz34_1
                    try clear hfz34_2
                    try clear hfz35_0
                    try clear hfz35_1
                    try clear hfz35_2
                    try clear hfz35_3
                    try clear hfz35_4
                    try clear hfz35_5
                    try clear hfz38_0
                    try clear hfz38_1
                    try clear hfz38_2
                    try clear hfz38_3
                    try clear hfz38_4
                    try clear hfz38_5
                    try clear hfz8_0
                    try clear hfz8_1
                    try clear hfz8_2
                    try clear hfz8_3
                    try clear hfz8_4
                    try clear hfz8_5
                    try clear hfz9_0
                    try clear hfz9_1
                    try clear hfz9_2
                    try clear p2
                    obtain ⟨x5_2, x51_2, rfl, HA, HK2, HO_5, BK158, BK159, HB⟩ := hrel
                    cases gk with
                    | zero => exact absurd HA.out (by simp [script_Tell.l0])
                    | succ k2 =>
                      have H := HA.out
                      clear HA
                      simp only [script_Tell.l0] at H
                      by_cases c39 : x51_2 < (l1_5.length : Int)
                      · rw [if_pos c39] at H
                        have c39b0 : decide (x51_2 < (l1_5.length : Int)) = true := decide_eq_true c39
                        clear c39
                        by_cases c40 : 0 ≤ x51_2
                        · rw [if_pos c40] at H
                          have c40b0 : decide (0 ≤ x51_2) = true := decide_eq_true c40
                          clear c40
                          by_cases c41 : x51_2 < (l1_5.length : Int)
                          · rw [if_pos c41] at H
                            have c41b0 : decide (x51_2 < (l1_5.length : Int)) = true := decide_eq_true c41
                            clear c41
                            obtain ⟨y166, hy166⟩ : ∃ y_ : List Int, y_ = (([(rd_T50 l1_5 x51_2).f0, (rd_T50 l1_5 x51_2).f1] : List Int)) := ⟨_, rfl⟩
                            replace H : (if x5_2.length + y166.length < 17592186044416 then (script_Tell.l0 k2 (x5_2 ++ y166) l1_5 (l1_5.length : Int) (wrap64 (x51_2 + 1))) else (none)) = some r := by first | (rw [hy166]; with_reducible exact H) | (have H2_ := (Option.bind_some _ _).symm.trans H; rw [hy166]; with_reducible exact H2_) | (have H2_ := (Option.bind_some _ _).symm.trans H; with_reducible exact H2_) | with_reducible exact H | (rw [hy166]; exact H) | exact H
                            have Ny166 := Aside0.mk hy166
                            clear hy166
                            by_cases c42 : x5_2.length + y166.length < 17592186044416
                            · rw [if_pos c42] at H
                              have LMc42 := Aside0.mk c42
                              clear c42
                              obtain ⟨y169, hy169⟩ : ∃ y_ : List Int, y_ = (x5_2 ++ y166) := ⟨_, rfl⟩
                              replace H : (script_Tell.l0 k2 y169 l1_5 (l1_5.length : Int) (wrap64 (x51_2 + 1))) = some r := by first | (rw [hy169]; with_reducible exact H) | (have H2_ := (Option.bind_some _ _).symm.trans H; rw [hy169]; with_reducible exact H2_) | (have H2_ := (Option.bind_some _ _).symm.trans H; with_reducible exact H2_) | with_reducible exact H | (rw [hy169]; exact H) | exact H
                              have Ny169 := Aside0.mk hy169
                              clear hy169
                              have H' := Aside0.mk H
                              clear H
                              have p164 : 0 ≤ (x51_2 : Int) := of_decide_eq_true (by first | (with_reducible assumption) | assumption)
                              have q164 : x51_2 < (l1_5.length : Int) := of_decide_eq_true (by first | (with_reducible assumption) | assumption)
                              obtain ⟨ad164, e164, hx164_0, hx164_1⟩ := at_T50 HR1_5.out x51_2 p164 q164
                              cases e164
                              replace hx164_0 := (HB.out.cell (World.block_lt_of_cell? w _ hx164_0)).trans hx164_0
                              replace hx164_1 := (HB.out.cell (World.block_lt_of_cell? w _ hx164_1)).trans hx164_1
                              replace p164 := eq_true p164
                              replace q164 := eq_true q164
                              go_wp2_with (first | ((with_reducible refine gate_dst (N := 7) rfl ?_); refine box_event ?hg (N := 7) ?hd (cs := #[.int .u64 0, .int .u64 0]) (t := 50) ?hr ?_; (case hd => rfl); (case hg => rfl); (case hr => first | (go_simp; done) | (go_simp; rfl)); intro gb165 hg w43 hbox hb; have n0_ := Aside0.mk (Kd.R_below (by (with_reducible repeat (first | apply Kd.R_alloc | apply Kd.R_drewN | apply Kd.R_drew)); exact HO_5.out) hb); have n1_ := Aside0.mk (blk_below (g := gb158) (o := .cells #[.int .i64 a0_0, .int .u64 a0_1, .int .u64 a0_2] 38 (0, 0)) (by (with_reducible repeat (first | refine blk_drewN ?_ _ | refine blk_drew ?_ | refine blk_alloc ?_ _)); exact BK158.out) hb); have n2_ := Aside0.mk (blk_below (g := gb159) (o := .cells #[.int .i64 a1_0, .bool a1_1, .int .u64 a1_2, .int .u64 a1_3, .int .i64 a1_4, .slice (some ad164) l1_5.length c1_5] 44 (0, 0)) (by (with_reducible repeat (first | refine blk_drewN ?_ _ | refine blk_drew ?_ | refine blk_alloc ?_ _)); exact BK159.out) hb); have n3_ := Aside0.mk (below_step (by repeat (first | (with_reducible first | exact HB.out | apply below_alloc | apply pw_below_drewN | apply below_drew1 | refine below_set ?_ GE158.out | refine below_set ?_ GE159.out) | exact HB.out)) hb); have n4_ := Aside0.mk (hbox); have n5_ := Aside0.mk ((by rw [hg]; exact (below_size (by repeat (first | (with_reducible first | exact HB.out | apply below_alloc | apply pw_below_drewN | apply below_drew1 | refine below_set ?_ GE158.out | refine below_set ?_ GE159.out) | exact HB.out))) : w.heap.size ≤ gb165)); have n6_ := Aside0.mk ((by rw [hg]; exact (below_size (by repeat (first | (with_reducible first | exact HB.out | apply below_alloc | apply pw_below_drewN | apply below_drew1 | refine below_set ?_ GE158.out | refine below_set ?_ GE159.out) | exact HB.out))) : w.heap.size ≤ gb165)); have n7_ := Aside0.mk ((by rw [hg]; exact Nat.ne_of_lt (blk_lt (g := gb158) (o := .cells #[.int .i64 a0_0, .int .u64 a0_1, .int .u64 a0_2] 38 (0, 0)) (by (with_reducible repeat (first | refine blk_drewN ?_ _ | refine blk_drew ?_ | refine blk_alloc ?_ _)); exact BK158.out)) : gb158 ≠ gb165)); have n8_ := Aside0.mk ((by rw [hg]; exact Nat.ne_of_gt (blk_lt (g := gb158) (o := .cells #[.int .i64 a0_0, .int .u64 a0_1, .int .u64 a0_2] 38 (0, 0)) (by (with_reducible repeat (first | refine blk_drewN ?_ _ | refine blk_drew ?_ | refine blk_alloc ?_ _)); exact BK158.out)) : gb165 ≠ gb158)); have n9_ := Aside0.mk ((by rw [hg]; exact Nat.ne_of_lt (blk_lt (g := gb159) (o := .cells #[.int .i64 a1_0, .bool a1_1, .int .u64 a1_2, .int .u64 a1_3, .int .i64 a1_4, .slice (some ad164) l1_5.length c1_5] 44 (0, 0)) (by (with_reducible repeat (first | refine blk_drewN ?_ _ | refine blk_drew ?_ | refine blk_alloc ?_ _)); exact BK159.out)) : gb159 ≠ gb165)); have n10_ := Aside0.mk ((by rw [hg]; exact Nat.ne_of_gt (blk_lt (g := gb159) (o := .cells #[.int .i64 a1_0, .bool a1_1, .int .u64 a1_2, .int .u64 a1_3, .int .i64 a1_4, .slice (some ad164) l1_5.length c1_5] 44 (0, 0)) (by (with_reducible repeat (first | refine blk_drewN ?_ _ | refine blk_drew ?_ | refine blk_alloc ?_ _)); exact BK159.out)) : gb165 ≠ gb159)); clear HO_5; clear BK158; clear BK159; clear HB; have HO_5 := n0_; have BK158 := n1_; have BK159 := n2_; have HB := n3_; have BK165 := n4_; have GW165 := n5_; have GE165 := n6_; have NB158_165 := n7_; have NB165_158 := n8_; have NB159_165 := n9_; have NB165_159 := n10_; clear n0_ n1_ n2_ n3_ n4_ n5_ n6_ n7_ n8_ n9_ n10_; clear hb hbox hg; have hnb44 := NB165_158.out; have hnc44 := NB158_165.out; have hnb45 := NB165_159.out; have hnc45 := NB159_165.out; have hcz46_0 : w43.cell? ⟨gb165, 0, none⟩ = some (.int .u64 0) := (blk_cell BK165.out 0).trans rfl; have hcz46_1 : w43.cell? ⟨gb165, 1, none⟩ = some (.int .u64 0) := (blk_cell BK165.out 1).trans rfl; have hfz46_0 := blk_frozen BK165.out 0; have hfz46_1 := blk_frozen BK165.out 1) | ((with_reducible refine gate_dst (N := 60) rfl ?_); refine Kd.R_lit (Kd.int .u64) _ 31 ?hg (N := 60) ?hd (xs := ([(rd_T50 l1_5 x51_2).f0, (rd_T50 l1_5 x51_2).f1] : List Int)) (inner := [.int .u64 ((rd_T50 l1_5 x51_2).f0), .int .u64 ((rd_T50 l1_5 x51_2).f1)]) (ok := fun _ => True) (okp := fun _ => True) ?hr ?hp (fun _ hk => hk) trivial (Below.refl _ _) (Nat.le_refl _) (by simp) ?_; (case hd => rfl); (case hg => rfl); (case hr => first | (go_simp; done) | (go_simp; rfl)); (case hp => exact (Reps.one (show Kd.M (Kd.int .u64) _ _ _ ((rd_T50 l1_5 x51_2).f0) [.int .u64 ((rd_T50 l1_5 x51_2).f0)] from rfl) (Reps.one (show Kd.M (Kd.int .u64) _ _ _ ((rd_T50 l1_5 x51_2).f1) [.int .u64 ((rd_T50 l1_5 x51_2).f1)] from rfl) (Reps.none _ _)))); intro v167 w47 ho48 hb hg_ hnew_; clear hg_ hnew_; (first | rw [← Ny166.out] at ho48 | (simp only [Int.reduceToNat] at ho48; rw [← Ny166.out] at ho48)); have n0_ := Aside0.mk (Kd.R_elder' (by (with_reducible repeat (first | apply Kd.R_alloc | apply Kd.R_drewN | apply Kd.R_drew)); exact (Kd.R_mono (Kd.R_far (p := ⟨gb165, 1, none⟩) (Kd.R_far (p := ⟨gb165, 0, none⟩) (Kd.R_types HO_5.out BK165.out (by decide)) (fun _ hk => hk.2) (.int .u64 ((rd_T50 l1_5 x51_2).f0))) (fun _ hk => hk.2) (.int .u64 ((rd_T50 l1_5 x51_2).f1))) (fun _ h_ => h_.1))) (Kd.R_base ho48) hb); have n1_ := Aside0.mk (Kd.R_lower (Kd.R_new' ho48 (Kd.R_lt (by (with_reducible repeat (first | apply Kd.R_alloc | apply Kd.R_drewN | apply Kd.R_drew)); exact (Kd.R_mono (Kd.R_far (p := ⟨gb165, 1, none⟩) (Kd.R_far (p := ⟨gb165, 0, none⟩) (Kd.R_types HO_5.out BK165.out (by decide)) (fun _ hk => hk.2) (.int .u64 ((rd_T50 l1_5 x51_2).f0))) (fun _ hk => hk.2) (.int .u64 ((rd_T50 l1_5 x51_2).f1))) (fun _ h_ => h_.1))))) (below_size (by repeat (first | (with_reducible first | exact HB.out | apply below_alloc | apply pw_below_drewN | apply below_drew1 | refine below_set ?_ GE158.out | refine below_set ?_ GE159.out | refine below_set ?_ GE165.out) | exact HB.out)))); have n2_ := Aside0.mk (blk_below (g := gb158) (o := .cells #[.int .i64 a0_0, .int .u64 a0_1, .int .u64 a0_2] 38 (0, 0)) (by (with_reducible repeat (first | refine blk_drewN ?_ _ | refine blk_drew ?_ | refine blk_alloc ?_ _)); refine blk_far ?_ NB158_165.out _; (with_reducible repeat (first | refine blk_drewN ?_ _ | refine blk_drew ?_ | refine blk_alloc ?_ _)); refine blk_far ?_ NB158_165.out _; (with_reducible repeat (first | refine blk_drewN ?_ _ | refine blk_drew ?_ | refine blk_alloc ?_ _)); exact BK158.out) hb); have n3_ := Aside0.mk (blk_below (g := gb159) (o := .cells #[.int .i64 a1_0, .bool a1_1, .int .u64 a1_2, .int .u64 a1_3, .int .i64 a1_4, .slice (some ad164) l1_5.length c1_5] 44 (0, 0)) (by (with_reducible repeat (first | refine blk_drewN ?_ _ | refine blk_drew ?_ | refine blk_alloc ?_ _)); refine blk_far ?_ NB159_165.out _; (with_reducible repeat (first | refine blk_drewN ?_ _ | refine blk_drew ?_ | refine blk_alloc ?_ _)); refine blk_far ?_ NB159_165.out _; (with_reducible repeat (first | refine blk_drewN ?_ _ | refine blk_drew ?_ | refine blk_alloc ?_ _)); exact BK159.out) hb); have n4_ := Aside0.mk (blk_below (g := gb165) (o := .cells #[.int .u64 ((rd_T50 l1_5 x51_2).f0), .int .u64 ((rd_T50 l1_5 x51_2).f1)] 50 (0, 0)) (by (with_reducible repeat (first | refine blk_drewN ?_ _ | refine blk_drew ?_ | refine blk_alloc ?_ _)); refine blk_put (cs := #[.int .u64 ((rd_T50 l1_5 x51_2).f0), .int .u64 0]) ?_ 1 _ rfl; (with_reducible repeat (first | refine blk_drewN ?_ _ | refine blk_drew ?_ | refine blk_alloc ?_ _)); refine blk_put (cs := #[.int .u64 0, .int .u64 0]) ?_ 0 _ rfl; (with_reducible repeat (first | refine blk_drewN ?_ _ | refine blk_drew ?_ | refine blk_alloc ?_ _)); exact BK165.out) hb); have n5_ := Aside0.mk (below_step (by repeat (first | (with_reducible first | exact HB.out | apply below_alloc | apply pw_below_drewN | apply below_drew1 | refine below_set ?_ GE158.out | refine below_set ?_ GE159.out | refine below_set ?_ GE165.out) | exact HB.out)) hb); clear HO_5; clear BK158; clear BK159; clear BK165; clear HB; have HO_5 := n0_; have HO168 := n1_; have BK158 := n2_; have BK159 := n3_; have BK165 := n4_; have HB := n5_; clear n0_ n1_ n2_ n3_ n4_ n5_; clear hb ho48; obtain ⟨Ao50, co50, eo50⟩ := Kd.R_slice HO168.out; subst eo50) | ((with_reducible refine gate_builtin (b := .append) (xs := #[.tmp 55, .tmp 60]) rfl ?_); at_builtin; refine Kd.R_append_rows (Kd.int .u64) (w0 := w) w.heap.size rfl (.tmp 55) (.tmp 60) 28 31 (.int .u64 0) 8 rfl Tryd.underlying28 info31 rfl (by decide) (by omega) u5 x5_2 y166 _ _ _ (fun k_ => some k_ ≠ (.slice Ao50 y166.length co50 : Value).ownBlock) (fun _ => False) rfl rfl ?aO ?aR (fun _ _ h => h) (fun _ h => h.elim) ?aF ?aB ?aS ?aL ?_; (case aR => repeat (first | exact (Kd.R_reads' HO168.out).2.2 | (with_reducible refine Kd.C_alloc ?_ _) | (with_reducible refine Kd.C_drewN ?_ _) | (with_reducible refine Kd.C_drew ?_))); (case aB => exact (by repeat (first | (with_reducible first | exact HB.out | apply below_alloc | apply pw_below_drewN | apply below_drew1 | refine below_set ?_ GE158.out | refine below_set ?_ GE159.out | refine below_set ?_ GE165.out) | exact HB.out))); (case aF => exact (fun k_ hk => Kd.fresh' (Kd.R_lt (by (with_reducible repeat (first | apply Kd.R_alloc | apply Kd.R_drewN | apply Kd.R_drew)); exact HO168.out)) k_ hk)); (case aO => exact (by (with_reducible repeat (first | apply Kd.R_alloc | apply Kd.R_drewN | apply Kd.R_drew)); exact Kd.R_mono HO_5.out (fun _ hk => hk.2))); (case aS => exact (below_size (by repeat (first | (with_reducible first | exact HB.out | apply below_alloc | apply pw_below_drewN | apply below_drew1 | refine below_set ?_ GE158.out | refine below_set ?_ GE159.out | refine below_set ?_ GE165.out) | exact HB.out)))); (case aL => have := LMc42.out; omega); intro v170 w49 ho hb hg hat; rw [← Ny169.out] at ho; have n0_ := Aside0.mk (blk_grown (g := gb158) (o := .cells #[.int .i64 a0_0, .int .u64 a0_1, .int .u64 a0_2] 38 (0, 0)) (by (with_reducible repeat (first | refine blk_drewN ?_ _ | refine blk_drew ?_ | refine blk_alloc ?_ _)); exact BK158.out) hg (Kd.R_ne HO_5.out BK158.out (by decide))); have n1_ := Aside0.mk (blk_grown (g := gb159) (o := .cells #[.int .i64 a1_0, .bool a1_1, .int .u64 a1_2, .int .u64 a1_3, .int .i64 a1_4, .slice (some ad164) l1_5.length c1_5] 44 (0, 0)) (by (with_reducible repeat (first | refine blk_drewN ?_ _ | refine blk_drew ?_ | refine blk_alloc ?_ _)); exact BK159.out) hg (Kd.R_ne HO_5.out BK159.out (by decide))); have n2_ := Aside0.mk (blk_grown (g := gb165) (o := .cells #[.int .u64 ((rd_T50 l1_5 x51_2).f0), .int .u64 ((rd_T50 l1_5 x51_2).f1)] 50 (0, 0)) (by (with_reducible repeat (first | refine blk_drewN ?_ _ | refine blk_drew ?_ | refine blk_alloc ?_ _)); exact BK165.out) hg (Kd.R_ne HO_5.out BK165.out (by decide))); have n3_ := Aside0.mk (Kd.R_after (ok := (fun _ => True)) (by (with_reducible repeat (first | apply Kd.R_alloc | apply Kd.R_drewN | apply Kd.R_drew)); exact HO168.out) hg hat); have n4_ := Aside0.mk (hb); have n5_ := Aside0.mk (ho); clear BK158; clear BK159; clear BK165; clear HO168; clear HB; clear HO_5; have BK158 := n0_; have BK159 := n1_; have BK165 := n2_; have HO168 := n3_; have HB := n4_; have HO171 := n5_; clear n0_ n1_ n2_ n3_ n4_ n5_; clear ho hb hg hat))
                              go_roundg k2
                              case measure => have := HJ9.out; have := HK2.out; omega
                              case rel => exact ⟨(y169), (wrap64 (x51_2 + 1)), (by first | rfl | (simp; done) | (simp [*]; done)), H', ⟨by have := HJ9.out; have := HK2.out; omega⟩, ⟨by (with_reducible repeat (first | apply Kd.R_alloc | apply Kd.R_drewN | apply Kd.R_drew)); exact Kd.R_mono HO171.out (fun _ hk => trivial)⟩, ⟨by (with_reducible repeat (first | refine blk_drewN ?_ _ | refine blk_drew ?_ | refine blk_alloc ?_ _)); exact BK158.out⟩, ⟨by (with_reducible repeat (first | refine blk_drewN ?_ _ | refine blk_drew ?_ | refine blk_alloc ?_ _)); exact BK159.out⟩, ⟨by repeat (first | (with_reducible first | exact HB.out | apply below_alloc | apply pw_below_drewN | apply below_drew1 | refine below_set ?_ GE158.out | refine below_set ?_ GE159.out | refine below_set ?_ GE165.out) | exact HB.out)⟩⟩
                            · rw [if_neg c42] at H
                              exact absurd H (by simp)
                          · rw [if_neg c41] at H
                            exact absurd H (by simp)
                        · rw [if_neg c40] at H
                          exact absurd H (by simp)
                      · rw [if_neg c39] at H
                        have c39b0 : decide (x51_2 < (l1_5.length : Int)) = false := decide_eq_false c39
                        clear c39
                        replace H := Option.bind_eq_some_iff.mp H
                        obtain ⟨t172, A510, H⟩ := H
                        replace H : (some t172) = some r := H
                        have A51 := Aside0.mk A510
                        clear A510
                        obtain rfl := Option.some.inj H
                        obtain ⟨Ao52, co52, eo52⟩ := Kd.R_slice HO_5.out
                        subst eo52
                        go_wp2_with (first | ((with_reducible refine gate_callee (f := 33) rfl ?_); refine goesL_ (some 64) rfl rfl Tryd.func33 (by kernel_rfl) rfl #[.slice Ao52 x5_2.length co52] rfl (by (try simp only [List.map_toArray, List.map_cons, List.map_nil]); first | done | rfl | (simp only [List.length_drop, List.length_take]; rfl)) ?_; (with_reducible refine (script_line.calls k2 _ _ x5_2 t172 _ ?side1 ?side2 ?sideT A51.out).mono ?_); (case sideT => exact Tabs.keep HT.out (by repeat (first | (with_reducible first | exact HB.out | apply below_alloc | apply pw_below_drewN | apply below_drew1) | exact HB.out))); (case side1 => repeat (first | exact (Kd.R_reads' HO_5.out).2.2 | (with_reducible refine Kd.C_alloc ?_ _) | (with_reducible refine Kd.C_drewN ?_ _) | (with_reducible refine Kd.C_drew ?_))); (case side2 => exact (Kd.R_reads' HO_5.out).2.1); rintro e w53 ⟨rfl, hb⟩; refine ⟨_, rfl, ?_⟩; have n0_ := Aside0.mk (Kd.R_below (by (with_reducible repeat (first | apply Kd.R_alloc | apply Kd.R_drewN | apply Kd.R_drew)); exact HO_5.out) hb); have n1_ := Aside0.mk (blk_below (g := gb158) (o := .cells #[.int .i64 a0_0, .int .u64 a0_1, .int .u64 a0_2] 38 (0, 0)) (by (with_reducible repeat (first | refine blk_drewN ?_ _ | refine blk_drew ?_ | refine blk_alloc ?_ _)); exact BK158.out) hb); have n2_ := Aside0.mk (blk_below (g := gb159) (o := .cells #[.int .i64 a1_0, .bool a1_1, .int .u64 a1_2, .int .u64 a1_3, .int .i64 a1_4, .slice A1_5 l1_5.length c1_5] 44 (0, 0)) (by (with_reducible repeat (first | refine blk_drewN ?_ _ | refine blk_drew ?_ | refine blk_alloc ?_ _)); exact BK159.out) hb); have n3_ := Aside0.mk (below_step (by repeat (first | (with_reducible first | exact HB.out | apply below_alloc | apply pw_below_drewN | apply below_drew1 | refine below_set ?_ GE158.out | refine below_set ?_ GE159.out) | exact HB.out)) hb); clear HO_5; clear BK158; clear BK159; clear HB; have HO_5 := n0_; have BK158 := n1_; have BK159 := n2_; have HB := n3_; clear n0_ n1_ n2_ n3_; (try clear hb); (try clear hb2); (try clear hk); (try clear hi)))
                        go_ret
                        exact ⟨by first | rfl | (simp [errW_none, errW_some] <;> rfl) | (simp [*, errW_none, errW_some] <;> rfl), by repeat (first | (with_reducible first | exact HB.out | apply below_alloc | apply pw_below_drewN | apply below_drew1 | refine below_set ?_ GE158.out | refine below_set ?_ GE159.out) | exact HB.out)⟩
                · rw [if_neg c32] at H
                  have c32b0 : (a0_0 == 7) = false := beq_eq_false_iff_ne.mpr c32
                  have c32b1 : (a0_0 != 7) = true := bne_iff_ne.mpr c32
                  have HC54 := Aside0.mk H
                  clear H
                  have hnb55 := NB158_159.out
                  have hnc55 := NB159_158.out
                  have hcz56_0 : wc.cell? ⟨gb158, 0, none⟩ = some (.int .i64 a0_0) := (blk_cell BK158.out 0).trans rfl
                  have hcz56_1 : wc.cell? ⟨gb158, 1, none⟩ = some (.int .u64 a0_1) := (blk_cell BK158.out 1).trans rfl
                  have hcz56_2 : wc.cell? ⟨gb158, 2, none⟩ = some (.int .u64 a0_2) := (blk_cell BK158.out 2).trans rfl
                  have hfz56_0 := blk_frozen BK158.out 0
                  have hfz56_1 := blk_frozen BK158.out 1
                  have hfz56_2 := blk_frozen BK158.out 2
                  go_upto_region 19 with (fail)
                  go_cut [65] (fun v65 wc => ∃ (kq : Nat) (x65_53 : Bool), v65 = .bool x65_53 ∧ Aside0 (script_Tell.j2 kq x65_53 a0_0 a0_1 a0_2 a1_0 a1_1 a1_2 a1_3 a1_4 l1_5 = some r) ∧ Aside0 (kq ≤ kj9) ∧ Aside0 (wc.heap[gb158]? = some (.cells #[.int .i64 a0_0, .int .u64 a0_1, .int .u64 a0_2] 38 (0, 0))) ∧ Aside0 (wc.heap[gb159]? = some (.cells #[.int .i64 a1_0, .bool a1_1, .int .u64 a1_2, .int .u64 a1_3, .int .i64 a1_4, (.slice A1_5 l1_5.length c1_5)] 44 (0, 0))) ∧ Aside0 (Below w.heap.size w wc))
                  case first =>
                    have H := HC54.out
                    clear HC54
                    by_cases c57 : a0_0 < 3
                    · rw [if_pos c57] at H
                      have c57b0 : decide (a0_0 < 3) = true := decide_eq_true c57
                      clear c57
                      (first | rw [c57b0] | (simp only [i64_w, i32_w]; rw [c57b0]) | skip)
                      have H' := Aside0.mk H
                      clear H
                      have hnb58 := NB158_159.out
                      have hnc58 := NB159_158.out
                      have hcz59_0 : wc.cell? ⟨gb158, 0, none⟩ = some (.int .i64 a0_0) := (blk_cell BK158.out 0).trans rfl
                      have hcz59_1 : wc.cell? ⟨gb158, 1, none⟩ = some (.int .u64 a0_1) := (blk_cell BK158.out 1).trans rfl
                      have hcz59_2 : wc.cell? ⟨gb158, 2, none⟩ = some (.int .u64 a0_2) := (blk_cell BK158.out 2).trans rfl
                      have hfz59_0 := blk_frozen BK158.out 0
                      have hfz59_1 := blk_frozen BK158.out 1
                      have hfz59_2 := blk_frozen BK158.out 2
                      go_wp2
                      go_meet
                      case rel => exact ⟨_, (true), (by first | rfl | (simp; done) | (simp [*]; done)), H', ⟨by have := HJ9.out; first | omega | exact Nat.le_refl _⟩, ⟨by (with_reducible repeat (first | refine blk_drewN ?_ _ | refine blk_drew ?_ | refine blk_alloc ?_ _)); exact BK158.out⟩, ⟨by (with_reducible repeat (first | refine blk_drewN ?_ _ | refine blk_drew ?_ | refine blk_alloc ?_ _)); exact BK159.out⟩, ⟨by repeat (first | (with_reducible first | exact HB.out | apply below_alloc | apply pw_below_drewN | apply below_drew1 | refine below_set ?_ GE158.out | refine below_set ?_ GE159.out) | exact HB.out)⟩⟩
                    · rw [if_neg c57] at H
                      have c57b0 : decide (a0_0 < 3) = false := decide_eq_false c57
                      clear c57
                      (first | rw [c57b0] | (simp only [i64_w, i32_w]; rw [c57b0]) | skip)
                      have H' := Aside0.mk H
                      clear H
                      have hnb60 := NB158_159.out
                      have hnc60 := NB159_158.out
                      have hcz61_0 : wc.cell? ⟨gb158, 0, none⟩ = some (.int .i64 a0_0) := (blk_cell BK158.out 0).trans rfl
                      have hcz61_1 : wc.cell? ⟨gb158, 1, none⟩ = some (.int .u64 a0_1) := (blk_cell BK158.out 1).trans rfl
                      have hcz61_2 : wc.cell? ⟨gb158, 2, none⟩ = some (.int .u64 a0_2) := (blk_cell BK158.out 2).trans rfl
                      have hfz61_0 := blk_frozen BK158.out 0
                      have hfz61_1 := blk_frozen BK158.out 1
                      have hfz61_2 := blk_frozen BK158.out 2
                      go_wp2
                      go_meet
                      case rel => exact ⟨_, (decide (a0_0 > 5)), (by first | rfl | (simp; done) | (simp [*]; done)), H', ⟨by have := HJ9.out; first | omega | exact Nat.le_refl _⟩, ⟨by (with_reducible repeat (first | refine blk_drewN ?_ _ | refine blk_drew ?_ | refine blk_alloc ?_ _)); exact BK158.out⟩, ⟨by (with_reducible repeat (first | refine blk_drewN ?_ _ | refine blk_drew ?_ | refine blk_alloc ?_ _)); exact BK159.out⟩, ⟨by repeat (first | (with_reducible first | exact HB.out | apply below_alloc | apply pw_below_drewN | apply below_drew1 | refine below_set ?_ GE158.out | refine below_set ?_ GE159.out) | exact HB.out)⟩⟩
                  case rest =>
                    clear HC54
                    try clear c1
                    try clear p1
                    try clear q1
                    try clear hx1
                    try clear c2
                    try clear p2
                    try clear c3
                    try clear c3b0
                    try clear c3b1
                    try clear c4
                    try clear c4b0
                    try clear c4b1
                    try clear c5
                    try clear c6
                    try clear p6
                    try clear c7
                    try clear c13
                    try clear c16
                    try clear c16b0
                    try clear c16b1
                    try clear p16
                    try clear q16
                    try clear hx16
                    try clear c17
                    try clear c20
                    try clear c22
                    try clear c23
                    try clear c23b0
                    try clear c23b1
                    try clear c24
                    try clear c26
                    try clear c26b0
                    try clear c26b1
                    try clear c28
                    try clear c32
                    try clear c32b0
                    try clear c32b1
                    try clear c33
                    try clear c39
                    try clear c39b0
                    try clear c40
                    try clear c40b0
                    try clear c41
                    try clear c41b0
                    try clear c42
                    try clear c44
                    try clear c45
                    try clear c55
                    try clear c57
                    try clear c57b0
                    try clear c58
                    try clear c60
                    try clear hcz14_0
                    try clear hcz14_1
                    try clear hcz14_2
                    try clear hcz14_3
                    try clear hcz14_4
                    try clear hcz14_5
                    try clear hcz15_0
                    try clear hcz15_1
                    try clear hcz15_2
                    try clear hcz18_0
                    try clear hcz18_1
                    try clear hcz18_2
                    try clear hcz19_0
                    try clear hcz19_1
                    try clear hcz19_2
                    try clear hcz19_3
                    try clear hcz19_4
                    try clear hcz19_5
                    try clear hcz21_0
                    try clear hcz21_1
                    try clear hcz21_2
                    try clear hcz25_0
                    try clear hcz25_1
                    try clear hcz25_2
                    try clear hcz29_0
                    try clear hcz29_1
                    try clear hcz29_2
                    try clear hcz30_0
                    try clear hcz30_1
                    try clear hcz30_2
                    try clear hcz30_3
                    try clear hcz30_4
                    try clear hcz30_5
                    try clear hcz34_0
                    try clear hcz34_1
                    try clear hcz34_2
                    try clear hcz35_0
                    try clear hcz35_1
                    try clear hcz35_2
                    try clear hcz35_3
                    try clear hcz35_4
                    try clear hcz35_5
                    try clear hcz38_0
                    try clear hcz38_1
                    try clear hcz38_2
                    try clear hcz38_3
                    try clear hcz38_4
                    try clear hcz38_5
                    try clear hcz46_0
                    try clear hcz46_1
                    try clear hcz56_0
                    try clear hcz56_1
                    try clear hcz56_2
                    try clear hcz59_0
                    try clear hcz59_1
                    try clear hcz59_2
                    try clear hcz61_0
                    try clear hcz61_1
                    try clear hcz61_2
                    try clear hcz8_0
                    try clear hcz8_1
                    try clear hcz8_2
                    try clear hcz8_3
                    try clear hcz8_4
                    try clear hcz8_5
                    try clear hcz9_0
                    try clear hcz9_1
                    try clear hcz9_2
                    try clear hfz14_0
                    try clear hfz14_1
                    try clear hfz14_2
                    try clear hfz14_3
                    try clear hfz14_4
                    try clear hfz14_5
                    try clear hfz15_0
                    try clear hfz15_1
                    try clear hfz15_2
                    try clear hfz18_0
                    try clear hfz18_1
                    try clear hfz18_2
                    try clear hfz19_0
                    try clear hfz19_1
                    try clear hfz19_2
                    try clear hfz19_3
                    try clear hfz19_4
                    try clear hfz19_5
                    try clear hfz21_0
                    try clear hfz21_1
                    try clear hfz21_2
                    try clear hfz25_0
                    try clear hfz25_1
                    try clear hfz25_2
                    try clear hfz29_0
                    try clear hfz29_1
                    try clear hfz29_2
                    try clear hfz30_0
                    try clear hfz30_1
                    try clear hfz30_2
                    try clear hfz30_3
                    try clear hfz30_4
                    try clear hfz30_5
                    try clear hfz34_0
                    try clear hfz34_1
                    try clear hfz34_2
                    try clear hfz35_0
                    try clear hfz35_1
                    try clear hfz35_2
                    try clear hfz35_3
                    try clear hfz35_4
                    try clear hfz35_5
                    try clear hfz38_0
                    try clear hfz38_1
                    try clear hfz38_2
                    try clear hfz38_3
                    try clear hfz38_4
                    try clear hfz38_5
                    try clear hfz46_0
                    try clear hfz46_1
                    try clear hfz56_0
                    try clear hfz56_1
                    try clear hfz56_2
                    try clear hfz59_0
                    try clear hfz59_1
                    try clear hfz59_2
                    try clear hfz61_0
                    try clear hfz61_1
                    try clear hfz61_2
                    try clear hfz8_0
                    try clear hfz8_1
                    try clear hfz8_2
                    try clear hfz8_3
                    try clear hfz8_4
                    try clear hfz8_5
                    try clear hfz9_0
                    try clear hfz9_1
                    try clear hfz9_2
                    try clear hx164_0
                    try clear hx164_1
                    try clear p164
                    try clear p2
                    try clear q164
                    obtain ⟨kq, x65_53, rfl, HA, HJ53, BK158, BK159, HB⟩ := hcut
                    cases kq with
                    | zero => exact absurd HA.out (by simp [script_Tell.j2])
                    | succ kj53 =>
                      have H := HA.out
                      clear HA
                      simp only [script_Tell.j2] at H
                      by_cases c62 : x65_53 = true
                      · subst c62
                        have H1 : (some (⟨#[]⟩ : ByteArray)) = some r := by rw [if_pos rfl] at H; exact H
                        clear H
                        have H := H1
                        clear H1
                        obtain rfl := Option.some.inj H
                        go_wp2
                        go_ret
                        exact ⟨by first | rfl | (simp [errW_none, errW_some] <;> rfl) | (simp [*, errW_none, errW_some] <;> rfl), by repeat (first | (with_reducible first | exact HB.out | apply below_alloc | apply pw_below_drewN | apply below_drew1 | refine below_set ?_ GE158.out | refine below_set ?_ GE159.out) | exact HB.out)⟩
                      · replace c62 := Bool.eq_false_iff.mpr c62
                        subst c62
                        have H1 : (if a1_1 = true then (if a0_0 = 3 then ((script_line.f kj53 (([a1_3] : List Int))).bind fun t176 => (some t176)) else ((script_line.f kj53 (([a1_2, a1_3] : List Int))).bind fun t180 => (some t180))) else (some (⟨#[110, 111, 110, 101]⟩ : ByteArray))) = some r := by rw [if_neg (show ¬ (false = true) by decide)] at H; exact H
                        clear H
                        have H := H1
                        clear H1
                        by_cases c63 : a1_1 = true
                        · subst c63
                          have H1 : (if a0_0 = 3 then ((script_line.f kj53 (([a1_3] : List Int))).bind fun t176 => (some t176)) else ((script_line.f kj53 (([a1_2, a1_3] : List Int))).bind fun t180 => (some t180))) = some r := by rw [if_pos rfl] at H; exact H
                          clear H
                          have H := H1
                          clear H1
                          by_cases c64 : a0_0 = 3
                          · rw [if_pos c64] at H
                            have c64b0 : (a0_0 == 3) = true := beq_iff_eq.mpr c64
                            have c64b1 : (a0_0 != 3) = false := bne_eq_false_iff_eq.mpr c64
                            clear c64
                            obtain ⟨y173, hy173⟩ : ∃ y_ : List Int, y_ = (([a1_3] : List Int)) := ⟨_, rfl⟩
                            replace H : ((script_line.f kj53 y173).bind fun t176 => (some t176)) = some r := by first | (rw [hy173]; with_reducible exact H) | (have H2_ := (Option.bind_some _ _).symm.trans H; rw [hy173]; with_reducible exact H2_) | (have H2_ := (Option.bind_some _ _).symm.trans H; with_reducible exact H2_) | with_reducible exact H | (rw [hy173]; exact H) | exact H
                            have Ny173 := Aside0.mk hy173
                            clear hy173
                            replace H := Option.bind_eq_some_iff.mp H
                            obtain ⟨t176, A650, H⟩ := H
                            replace H : (some t176) = some r := H
                            have A65 := Aside0.mk A650
                            clear A650
                            obtain rfl := Option.some.inj H
                            have hnb66 := NB159_158.out
                            have hnc66 := NB158_159.out
                            have hcz67_0 : wc.cell? ⟨gb159, 0, none⟩ = some (.int .i64 a1_0) := (blk_cell BK159.out 0).trans rfl
                            have hcz67_1 : wc.cell? ⟨gb159, 1, none⟩ = some (.bool true) := (blk_cell BK159.out 1).trans rfl
                            have hcz67_2 : wc.cell? ⟨gb159, 2, none⟩ = some (.int .u64 a1_2) := (blk_cell BK159.out 2).trans rfl
                            have hcz67_3 : wc.cell? ⟨gb159, 3, none⟩ = some (.int .u64 a1_3) := (blk_cell BK159.out 3).trans rfl
                            have hcz67_4 : wc.cell? ⟨gb159, 4, none⟩ = some (.int .i64 a1_4) := (blk_cell BK159.out 4).trans rfl
                            have hcz67_5 : wc.cell? ⟨gb159, 5, none⟩ = some (.slice A1_5 l1_5.length c1_5) := (blk_cell BK159.out 5).trans rfl
                            have hfz67_0 := blk_frozen BK159.out 0
                            have hfz67_1 := blk_frozen BK159.out 1
                            have hfz67_2 := blk_frozen BK159.out 2
                            have hfz67_3 := blk_frozen BK159.out 3
                            have hfz67_4 := blk_frozen BK159.out 4
                            have hfz67_5 := blk_frozen BK159.out 5
                            have hcz68_0 : wc.cell? ⟨gb158, 0, none⟩ = some (.int .i64 a0_0) := (blk_cell BK158.out 0).trans rfl
                            have hcz68_1 : wc.cell? ⟨gb158, 1, none⟩ = some (.int .u64 a0_1) := (blk_cell BK158.out 1).trans rfl
                            have hcz68_2 : wc.cell? ⟨gb158, 2, none⟩ = some (.int .u64 a0_2) := (blk_cell BK158.out 2).trans rfl
                            have hfz68_0 := blk_frozen BK158.out 0
                            have hfz68_1 := blk_frozen BK158.out 1
                            have hfz68_2 := blk_frozen BK158.out 2
                            go_wp2_with (first | ((with_reducible refine gate_dst (N := 84) rfl ?_); refine Kd.R_lit (Kd.int .u64) _ 31 ?hg (N := 84) ?hd (xs := ([a1_3] : List Int)) (inner := [.int .u64 a1_3]) (ok := fun _ => True) (okp := fun _ => True) ?hr ?hp (fun _ hk => hk) trivial (Below.refl _ _) (Nat.le_refl _) (by simp) ?_; (case hd => rfl); (case hg => rfl); (case hr => first | (go_simp; done) | (go_simp; rfl)); (case hp => exact (Reps.one (show Kd.M (Kd.int .u64) _ _ _ a1_3 [.int .u64 a1_3] from rfl) (Reps.none _ _))); intro v174 w69 ho70 hb hg_ hnew_; clear hg_ hnew_; (first | rw [← Ny173.out] at ho70 | (simp only [Int.reduceToNat] at ho70; rw [← Ny173.out] at ho70)); have n0_ := Aside0.mk (Kd.R_lower ho70 (below_size (by repeat (first | (with_reducible first | exact HB.out | apply below_alloc | apply pw_below_drewN | apply below_drew1 | refine below_set ?_ GE158.out | refine below_set ?_ GE159.out) | exact HB.out)))); have n1_ := Aside0.mk (blk_below (g := gb158) (o := .cells #[.int .i64 a0_0, .int .u64 a0_1, .int .u64 a0_2] 38 (0, 0)) (by (with_reducible repeat (first | refine blk_drewN ?_ _ | refine blk_drew ?_ | refine blk_alloc ?_ _)); exact BK158.out) hb); have n2_ := Aside0.mk (blk_below (g := gb159) (o := .cells #[.int .i64 a1_0, .bool true, .int .u64 a1_2, .int .u64 a1_3, .int .i64 a1_4, .slice A1_5 l1_5.length c1_5] 44 (0, 0)) (by (with_reducible repeat (first | refine blk_drewN ?_ _ | refine blk_drew ?_ | refine blk_alloc ?_ _)); exact BK159.out) hb); have n3_ := Aside0.mk (below_step (by repeat (first | (with_reducible first | exact HB.out | apply below_alloc | apply pw_below_drewN | apply below_drew1 | refine below_set ?_ GE158.out | refine below_set ?_ GE159.out) | exact HB.out)) hb); clear BK158; clear BK159; clear HB; have HO175 := n0_; have BK158 := n1_; have BK159 := n2_; have HB := n3_; clear n0_ n1_ n2_ n3_; clear hb ho70; obtain ⟨Ao71, co71, eo71⟩ := Kd.R_slice HO175.out; subst eo71) | ((with_reducible refine gate_callee (f := 33) rfl ?_); refine goesL_ (some 85) rfl rfl Tryd.func33 (by kernel_rfl) rfl #[.slice Ao71 y173.length co71] rfl (by (try simp only [List.map_toArray, List.map_cons, List.map_nil]); first | done | rfl | (simp only [List.length_drop, List.length_take]; rfl)) ?_; (with_reducible refine (script_line.calls kj53 _ _ y173 t176 _ ?side1 ?side2 ?sideT A65.out).mono ?_); (case sideT => exact Tabs.keep HT.out (by repeat (first | (with_reducible first | exact HB.out | apply below_alloc | apply pw_below_drewN | apply below_drew1) | exact HB.out))); (case side1 => repeat (first | exact (Kd.R_reads' HO175.out).2.2 | (with_reducible refine Kd.C_alloc ?_ _) | (with_reducible refine Kd.C_drewN ?_ _) | (with_reducible refine Kd.C_drew ?_))); (case side2 => exact (Kd.R_reads' HO175.out).2.1); rintro e w72 ⟨rfl, hb⟩; refine ⟨_, rfl, ?_⟩; have n0_ := Aside0.mk (Kd.R_below (by (with_reducible repeat (first | apply Kd.R_alloc | apply Kd.R_drewN | apply Kd.R_drew)); exact HO175.out) hb); have n1_ := Aside0.mk (blk_below (g := gb158) (o := .cells #[.int .i64 a0_0, .int .u64 a0_1, .int .u64 a0_2] 38 (0, 0)) (by (with_reducible repeat (first | refine blk_drewN ?_ _ | refine blk_drew ?_ | refine blk_alloc ?_ _)); exact BK158.out) hb); have n2_ := Aside0.mk (blk_below (g := gb159) (o := .cells #[.int .i64 a1_0, .bool true, .int .u64 a1_2, .int .u64 a1_3, .int .i64 a1_4, .slice A1_5 l1_5.length c1_5] 44 (0, 0)) (by (with_reducible repeat (first | refine blk_drewN ?_ _ | refine blk_drew ?_ | refine blk_alloc ?_ _)); exact BK159.out) hb); have n3_ := Aside0.mk (below_step (by repeat (first | (with_reducible first | exact HB.out | apply below_alloc | apply pw_below_drewN | apply below_drew1 | refine below_set ?_ GE158.out | refine below_set ?_ GE159.out) | exact HB.out)) hb); clear HO175; clear BK158; clear BK159; clear HB; have HO175 := n0_; have BK158 := n1_; have BK159 := n2_; have HB := n3_; clear n0_ n1_ n2_ n3_; (try clear hb); (try clear hb2); (try clear hk); (try clear hi)))
                            go_ret
                            exact ⟨by first | rfl | (simp [errW_none, errW_some] <;> rfl) | (simp [*, errW_none, errW_some] <;> rfl), by repeat (first | (with_reducible first | exact HB.out | apply below_alloc | apply pw_below_drewN | apply below_drew1 | refine below_set ?_ GE158.out | refine below_set ?_ GE159.out) | exact HB.out)⟩
                          · rw [if_neg c64] at H
                            have c64b0 : (a0_0 == 3) = false := beq_eq_false_iff_ne.mpr c64
                            have c64b1 : (a0_0 != 3) = true := bne_iff_ne.mpr c64
                            obtain ⟨y177, hy177⟩ : ∃ y_ : List Int, y_ = (([a1_2, a1_3] : List Int)) := ⟨_, rfl⟩
                            replace H : ((script_line.f kj53 y177).bind fun t180 => (some t180)) = some r := by first | (rw [hy177]; with_reducible exact H) | (have H2_ := (Option.bind_some _ _).symm.trans H; rw [hy177]; with_reducible exact H2_) | (have H2_ := (Option.bind_some _ _).symm.trans H; with_reducible exact H2_) | with_reducible exact H | (rw [hy177]; exact H) | exact H
                            have Ny177 := Aside0.mk hy177
                            clear hy177
                            replace H := Option.bind_eq_some_iff.mp H
                            obtain ⟨t180, A730, H⟩ := H
                            replace H : (some t180) = some r := H
                            have A73 := Aside0.mk A730
                            clear A730
                            obtain rfl := Option.some.inj H
                            have hnb74 := NB159_158.out
                            have hnc74 := NB158_159.out
                            have hcz75_0 : wc.cell? ⟨gb159, 0, none⟩ = some (.int .i64 a1_0) := (blk_cell BK159.out 0).trans rfl
                            have hcz75_1 : wc.cell? ⟨gb159, 1, none⟩ = some (.bool true) := (blk_cell BK159.out 1).trans rfl
                            have hcz75_2 : wc.cell? ⟨gb159, 2, none⟩ = some (.int .u64 a1_2) := (blk_cell BK159.out 2).trans rfl
                            have hcz75_3 : wc.cell? ⟨gb159, 3, none⟩ = some (.int .u64 a1_3) := (blk_cell BK159.out 3).trans rfl
                            have hcz75_4 : wc.cell? ⟨gb159, 4, none⟩ = some (.int .i64 a1_4) := (blk_cell BK159.out 4).trans rfl
                            have hcz75_5 : wc.cell? ⟨gb159, 5, none⟩ = some (.slice A1_5 l1_5.length c1_5) := (blk_cell BK159.out 5).trans rfl
                            have hfz75_0 := blk_frozen BK159.out 0
                            have hfz75_1 := blk_frozen BK159.out 1
                            have hfz75_2 := blk_frozen BK159.out 2
                            have hfz75_3 := blk_frozen BK159.out 3
                            have hfz75_4 := blk_frozen BK159.out 4
                            have hfz75_5 := blk_frozen BK159.out 5
                            have hcz76_0 : wc.cell? ⟨gb158, 0, none⟩ = some (.int .i64 a0_0) := (blk_cell BK158.out 0).trans rfl
                            have hcz76_1 : wc.cell? ⟨gb158, 1, none⟩ = some (.int .u64 a0_1) := (blk_cell BK158.out 1).trans rfl
                            have hcz76_2 : wc.cell? ⟨gb158, 2, none⟩ = some (.int .u64 a0_2) := (blk_cell BK158.out 2).trans rfl
                            have hfz76_0 := blk_frozen BK158.out 0
                            have hfz76_1 := blk_frozen BK158.out 1
                            have hfz76_2 := blk_frozen BK158.out 2
                            go_wp2_with (first | ((with_reducible refine gate_dst (N := 90) rfl ?_); refine Kd.R_lit (Kd.int .u64) _ 31 ?hg (N := 90) ?hd (xs := ([a1_2, a1_3] : List Int)) (inner := [.int .u64 a1_2, .int .u64 a1_3]) (ok := fun _ => True) (okp := fun _ => True) ?hr ?hp (fun _ hk => hk) trivial (Below.refl _ _) (Nat.le_refl _) (by simp) ?_; (case hd => rfl); (case hg => rfl); (case hr => first | (go_simp; done) | (go_simp; rfl)); (case hp => exact (Reps.one (show Kd.M (Kd.int .u64) _ _ _ a1_2 [.int .u64 a1_2] from rfl) (Reps.one (show Kd.M (Kd.int .u64) _ _ _ a1_3 [.int .u64 a1_3] from rfl) (Reps.none _ _)))); intro v178 w77 ho78 hb hg_ hnew_; clear hg_ hnew_; (first | rw [← Ny177.out] at ho78 | (simp only [Int.reduceToNat] at ho78; rw [← Ny177.out] at ho78)); have n0_ := Aside0.mk (Kd.R_lower ho78 (below_size (by repeat (first | (with_reducible first | exact HB.out | apply below_alloc | apply pw_below_drewN | apply below_drew1 | refine below_set ?_ GE158.out | refine below_set ?_ GE159.out) | exact HB.out)))); have n1_ := Aside0.mk (blk_below (g := gb158) (o := .cells #[.int .i64 a0_0, .int .u64 a0_1, .int .u64 a0_2] 38 (0, 0)) (by (with_reducible repeat (first | refine blk_drewN ?_ _ | refine blk_drew ?_ | refine blk_alloc ?_ _)); exact BK158.out) hb); have n2_ := Aside0.mk (blk_below (g := gb159) (o := .cells #[.int .i64 a1_0, .bool true, .int .u64 a1_2, .int .u64 a1_3, .int .i64 a1_4, .slice A1_5 l1_5.length c1_5] 44 (0, 0)) (by (with_reducible repeat (first | refine blk_drewN ?_ _ | refine blk_drew ?_ | refine blk_alloc ?_ _)); exact BK159.out) hb); have n3_ := Aside0.mk (below_step (by repeat (first | (with_reducible first | exact HB.out | apply below_alloc | apply pw_below_drewN | apply below_drew1 | refine below_set ?_ GE158.out | refine below_set ?_ GE159.out) | exact HB.out)) hb); clear BK158; clear BK159; clear HB; have HO179 := n0_; have BK158 := n1_; have BK159 := n2_; have HB := n3_; clear n0_ n1_ n2_ n3_; clear hb ho78; obtain ⟨Ao79, co79, eo79⟩ := Kd.R_slice HO179.out; subst eo79) | ((with_reducible refine gate_callee (f := 33) rfl ?_); refine goesL_ (some 91) rfl rfl Tryd.func33 (by kernel_rfl) rfl #[.slice Ao79 y177.length co79] rfl (by (try simp only [List.map_toArray, List.map_cons, List.map_nil]); first | done | rfl | (simp only [List.length_drop, List.length_take]; rfl)) ?_; (with_reducible refine (script_line.calls kj53 _ _ y177 t180 _ ?side1 ?side2 ?sideT A73.out).mono ?_); (case sideT => exact Tabs.keep HT.out (by repeat (first | (with_reducible first | exact HB.out | apply below_alloc | apply pw_below_drewN | apply below_drew1) | exact HB.out))); (case side1 => repeat (first | exact (Kd.R_reads' HO179.out).2.2 | (with_reducible refine Kd.C_alloc ?_ _) | (with_reducible refine Kd.C_drewN ?_ _) | (with_reducible refine Kd.C_drew ?_))); (case side2 => exact (Kd.R_reads' HO179.out).2.1); rintro e w80 ⟨rfl, hb⟩; refine ⟨_, rfl, ?_⟩; have n0_ := Aside0.mk (Kd.R_below (by (with_reducible repeat (first | apply Kd.R_alloc | apply Kd.R_drewN | apply Kd.R_drew)); exact HO179.out) hb); have n1_ := Aside0.mk (blk_below (g := gb158) (o := .cells #[.int .i64 a0_0, .int .u64 a0_1, .int .u64 a0_2] 38 (0, 0)) (by (with_reducible repeat (first | refine blk_drewN ?_ _ | refine blk_drew ?_ | refine blk_alloc ?_ _)); exact BK158.out) hb); have n2_ := Aside0.mk (blk_below (g := gb159) (o := .cells #[.int .i64 a1_0, .bool true, .int .u64 a1_2, .int .u64 a1_3, .int .i64 a1_4, .slice A1_5 l1_5.length c1_5] 44 (0, 0)) (by (with_reducible repeat (first | refine blk_drewN ?_ _ | refine blk_drew ?_ | refine blk_alloc ?_ _)); exact BK159.out) hb); have n3_ := Aside0.mk (below_step (by repeat (first | (with_reducible first | exact HB.out | apply below_alloc | apply pw_below_drewN | apply below_drew1 | refine below_set ?_ GE158.out | refine below_set ?_ GE159.out) | exact HB.out)) hb); clear HO179; clear BK158; clear BK159; clear HB; have HO179 := n0_; have BK158 := n1_; have BK159 := n2_; have HB := n3_; clear n0_ n1_ n2_ n3_; (try clear hb); (try clear hb2); (try clear hk); (try clear hi)))
                            go_ret
                            exact ⟨by first | rfl | (simp [errW_none, errW_some] <;> rfl) | (simp [*, errW_none, errW_some] <;> rfl), by repeat (first | (with_reducible first | exact HB.out | apply below_alloc | apply pw_below_drewN | apply below_drew1 | refine below_set ?_ GE158.out | refine below_set ?_ GE159.out) | exact HB.out)⟩
                        · replace c63 := Bool.eq_false_iff.mpr c63
                          subst c63
                          have H1 : (some (⟨#[110, 111, 110, 101]⟩ : ByteArray)) = some r := by rw [if_neg (show ¬ (false = true) by decide)] at H; exact H
                          clear H
                          have H := H1
                          clear H1
                          obtain rfl := Option.some.inj H
                          have hnb81 := NB159_158.out
                          have hnc81 := NB158_159.out
                          have hcz82_0 : wc.cell? ⟨gb159, 0, none⟩ = some (.int .i64 a1_0) := (blk_cell BK159.out 0).trans rfl
                          have hcz82_1 : wc.cell? ⟨gb159, 1, none⟩ = some (.bool false) := (blk_cell BK159.out 1).trans rfl
                          have hcz82_2 : wc.cell? ⟨gb159, 2, none⟩ = some (.int .u64 a1_2) := (blk_cell BK159.out 2).trans rfl
                          have hcz82_3 : wc.cell? ⟨gb159, 3, none⟩ = some (.int .u64 a1_3) := (blk_cell BK159.out 3).trans rfl
                          have hcz82_4 : wc.cell? ⟨gb159, 4, none⟩ = some (.int .i64 a1_4) := (blk_cell BK159.out 4).trans rfl
                          have hcz82_5 : wc.cell? ⟨gb159, 5, none⟩ = some (.slice A1_5 l1_5.length c1_5) := (blk_cell BK159.out 5).trans rfl
                          have hfz82_0 := blk_frozen BK159.out 0
                          have hfz82_1 := blk_frozen BK159.out 1
                          have hfz82_2 := blk_frozen BK159.out 2
                          have hfz82_3 := blk_frozen BK159.out 3
                          have hfz82_4 := blk_frozen BK159.out 4
                          have hfz82_5 := blk_frozen BK159.out 5
                          go_wp2
                          go_ret
                          exact ⟨by first | rfl | (simp [errW_none, errW_some] <;> rfl) | (simp [*, errW_none, errW_some] <;> rfl), by repeat (first | (with_reducible first | exact HB.out | apply below_alloc | apply pw_below_drewN | apply below_drew1 | refine below_set ?_ GE158.out | refine below_set ?_ GE159.out) | exact HB.out)⟩
  · rw [if_neg c3] at H
    have c3b0 : (a1_0 == 0) = false := beq_eq_false_iff_ne.mpr c3
    have c3b1 : (a1_0 != 0) = true := bne_iff_ne.mpr c3
    replace H := Option.bind_eq_some_iff.mp H
    obtain ⟨t181, A830, H⟩ := H
    replace H : (if 6 + t181.size ≤ 9223372036854775807 then (some ((⟨#[101, 114, 114, 111, 114, 32]⟩ : ByteArray) ++ t181)) else (none)) = some r := H
    have A83 := Aside0.mk A830
    clear A830
    by_cases c84 : 6 + t181.size ≤ 9223372036854775807
    · rw [if_pos c84] at H
      have c84b0 := eq_true c84
      have c84b1 : decide (6 + t181.size ≤ 9223372036854775807) = true := decide_eq_true c84
      try have c84b2 : (9223372036854775807 < 6 + t181.size) = False := eq_false (Nat.not_lt.2 c84)
      obtain rfl := Option.some.inj H
      go_enter Tryd.func20, Tryd.ntmps20
      go_wp2_with (first | ((with_reducible refine gate_dst (N := 2) rfl ?_); refine box_event ?hg (N := 2) ?hd (cs := #[.int .i64 a0_0, .int .u64 a0_1, .int .u64 a0_2]) (t := 38) ?hr ?_; (case hd => rfl); (case hg => rfl); (case hr => first | (go_simp; done) | (go_simp; rfl)); intro gb158 hg w85 hbox hb; have n0_ := Aside0.mk (below_step (by repeat (first | (with_reducible first | exact HB.out | apply below_alloc | apply pw_below_drewN | apply below_drew1) | exact HB.out)) hb); have n1_ := Aside0.mk (hbox); have n2_ := Aside0.mk ((by rw [hg]; exact (below_size (by repeat (first | (with_reducible first | exact HB.out | apply below_alloc | apply pw_below_drewN | apply below_drew1) | exact HB.out))) : w.heap.size ≤ gb158)); have n3_ := Aside0.mk ((by rw [hg]; exact (below_size (by repeat (first | (with_reducible first | exact HB.out | apply below_alloc | apply pw_below_drewN | apply below_drew1) | exact HB.out))) : w.heap.size ≤ gb158)); clear HB; have HB := n0_; have BK158 := n1_; have GW158 := n2_; have GE158 := n3_; clear n0_ n1_ n2_ n3_; clear hb hbox hg) | ((with_reducible refine gate_dst (N := 3) rfl ?_); refine box_event ?hg (N := 3) ?hd (cs := #[.int .i64 a1_0, .bool a1_1, .int .u64 a1_2, .int .u64 a1_3, .int .i64 a1_4, .slice A1_5 l1_5.length c1_5]) (t := 44) ?hr ?_; (case hd => rfl); (case hg => rfl); (case hr => first | (go_simp; done) | (go_simp; rfl)); intro gb159 hg w86 hbox hb; have n0_ := Aside0.mk (blk_below (g := gb158) (o := .cells #[.int .i64 a0_0, .int .u64 a0_1, .int .u64 a0_2] 38 (0, 0)) (by (with_reducible repeat (first | refine blk_drewN ?_ _ | refine blk_drew ?_ | refine blk_alloc ?_ _)); exact BK158.out) hb); have n1_ := Aside0.mk (below_step (by repeat (first | (with_reducible first | exact HB.out | apply below_alloc | apply pw_below_drewN | apply below_drew1 | refine below_set ?_ GE158.out) | exact HB.out)) hb); have n2_ := Aside0.mk (hbox); have n3_ := Aside0.mk ((by rw [hg]; exact (below_size (by repeat (first | (with_reducible first | exact HB.out | apply below_alloc | apply pw_below_drewN | apply below_drew1 | refine below_set ?_ GE158.out) | exact HB.out))) : w.heap.size ≤ gb159)); have n4_ := Aside0.mk ((by rw [hg]; exact (below_size (by repeat (first | (with_reducible first | exact HB.out | apply below_alloc | apply pw_below_drewN | apply below_drew1 | refine below_set ?_ GE158.out) | exact HB.out))) : w.heap.size ≤ gb159)); have n5_ := Aside0.mk ((by rw [hg]; exact Nat.ne_of_lt (blk_lt (g := gb158) (o := .cells #[.int .i64 a0_0, .int .u64 a0_1, .int .u64 a0_2] 38 (0, 0)) (by (with_reducible repeat (first | refine blk_drewN ?_ _ | refine blk_drew ?_ | refine blk_alloc ?_ _)); exact BK158.out)) : gb158 ≠ gb159)); have n6_ := Aside0.mk ((by rw [hg]; exact Nat.ne_of_gt (blk_lt (g := gb158) (o := .cells #[.int .i64 a0_0, .int .u64 a0_1, .int .u64 a0_2] 38 (0, 0)) (by (with_reducible repeat (first | refine blk_drewN ?_ _ | refine blk_drew ?_ | refine blk_alloc ?_ _)); exact BK158.out)) : gb159 ≠ gb158)); clear BK158; clear HB; have BK158 := n0_; have HB := n1_; have BK159 := n2_; have GW159 := n3_; have GE159 := n4_; have NB158_159 := n5_; have NB159_158 := n6_; clear n0_ n1_ n2_ n3_ n4_ n5_ n6_; clear hb hbox hg; have hnb87 := NB159_158.out; have hnc87 := NB158_159.out; have hcz88_0 : w86.cell? ⟨gb159, 0, none⟩ = some (.int .i64 a1_0) := (blk_cell BK159.out 0).trans rfl; have hcz88_1 : w86.cell? ⟨gb159, 1, none⟩ = some (.bool a1_1) := (blk_cell BK159.out 1).trans rfl; have hcz88_2 : w86.cell? ⟨gb159, 2, none⟩ = some (.int .u64 a1_2) := (blk_cell BK159.out 2).trans rfl; have hcz88_3 : w86.cell? ⟨gb159, 3, none⟩ = some (.int .u64 a1_3) := (blk_cell BK159.out 3).trans rfl; have hcz88_4 : w86.cell? ⟨gb159, 4, none⟩ = some (.int .i64 a1_4) := (blk_cell BK159.out 4).trans rfl; have hcz88_5 : w86.cell? ⟨gb159, 5, none⟩ = some (.slice A1_5 l1_5.length c1_5) := (blk_cell BK159.out 5).trans rfl; have hfz88_0 := blk_frozen BK159.out 0; have hfz88_1 := blk_frozen BK159.out 1; have hfz88_2 := blk_frozen BK159.out 2; have hfz88_3 := blk_frozen BK159.out 3; have hfz88_4 := blk_frozen BK159.out 4; have hfz88_5 := blk_frozen BK159.out 5) | ((with_reducible refine gate_callee (f := 32) rfl ?_); refine goesL_ (some 14) rfl rfl Tryd.func32 (by kernel_rfl) rfl #[.int .i64 a1_0] rfl (by (try simp only [List.map_toArray, List.map_cons, List.map_nil]); first | done | rfl | (simp only [List.length_drop, List.length_take]; rfl)) ?_; (with_reducible refine (strconv_Itoa.calls a1_0 t181 _ ?sideT A83.out).mono ?_); (case sideT => exact Tabs.keep HT.out (by repeat (first | (with_reducible first | exact HB.out | apply below_alloc | apply pw_below_drewN | apply below_drew1) | exact HB.out))); rintro e w89 ⟨rfl, hb⟩; refine ⟨_, rfl, ?_⟩; have n0_ := Aside0.mk (blk_below (g := gb158) (o := .cells #[.int .i64 a0_0, .int .u64 a0_1, .int .u64 a0_2] 38 (0, 0)) (by (with_reducible repeat (first | refine blk_drewN ?_ _ | refine blk_drew ?_ | refine blk_alloc ?_ _)); exact BK158.out) hb); have n1_ := Aside0.mk (blk_below (g := gb159) (o := .cells #[.int .i64 a1_0, .bool a1_1, .int .u64 a1_2, .int .u64 a1_3, .int .i64 a1_4, .slice A1_5 l1_5.length c1_5] 44 (0, 0)) (by (with_reducible repeat (first | refine blk_drewN ?_ _ | refine blk_drew ?_ | refine blk_alloc ?_ _)); exact BK159.out) hb); have n2_ := Aside0.mk (below_step (by repeat (first | (with_reducible first | exact HB.out | apply below_alloc | apply pw_below_drewN | apply below_drew1 | refine below_set ?_ GE158.out | refine below_set ?_ GE159.out) | exact HB.out)) hb); clear BK158; clear BK159; clear HB; have BK158 := n0_; have BK159 := n1_; have HB := n2_; clear n0_ n1_ n2_; (try clear hb); (try clear hb2); (try clear hk); (try clear hi)))
      go_ret
      exact ⟨by first | rfl | (simp [errW_none, errW_some] <;> rfl) | (simp [*, errW_none, errW_some] <;> rfl), by repeat (first | (with_reducible first | exact HB.out | apply below_alloc | apply pw_below_drewN | apply below_drew1 | refine below_set ?_ GE158.out | refine below_set ?_ GE159.out) | exact HB.out)⟩
    · rw [if_neg c84] at H
      exact absurd H (by simp)

end Go.Proofs.YtlfoaaeelcmhiaaDoor.G
end

section
/- Plain laws, on: script.line, script.Tell's list of pairs. -/
namespace Go.Proofs.YtlfoaaeelcmhiaaDoor.Pure
open Go.RowKit Go.Proofs.YtlfoaaeelcmhiaaDoor.G
open Go.Proofs.YtlfoaaeelcmhiaaDoorW.PrintWords hiding nums
set_option linter.unusedVariables false
set_option linter.unusedSimpArgs false
def lineText : List Int → Bytes
  | [] => []
  | n :: ns => Lib.decDigits n.toNat ++ numsText ns
theorem line_l0 (ns : List Int) (hw : ∀ n ∈ ns, u64ok n) (hl : ns.length ≤ 1000000000) : ∀ (d i k : Nat) (bs : Bytes), ns.length = i + d → 0 < i → d < k → bs.length ≤ 21 * i →
    script_line.l0 k (nums bs) ns (ns.length : Int) (i : Int) = some (mk (bs ++ numsText (ns.drop i))) := by
  intro d
  induction d with
  | zero =>
    intro i k bs h1 h0 hk hb
    obtain ⟨k, rfl⟩ : ∃ m, k = m + 1 := ⟨k - 1, by omega⟩
    simp only [script_line.l0]
    rw [if_neg (by omega), strOf_nums, List.drop_eq_nil_of_le (by omega)]
    simp [numsText, mk]
  | succ d ih =>
    intro i k bs h1 h0 hk hb
    obtain ⟨k, rfl⟩ : ∃ m, k = m + 1 := ⟨k - 1, by omega⟩
    have hi : i < ns.length := by omega
    have hu := hw _ (List.getElem_mem hi)
    have hd := dec_len hu
    simp only [script_line.l0]
    rw [if_pos (by omega), if_pos (by omega), if_pos (by omega), if_pos (by omega), nums_length, if_pos (by omega), rd_get _ _ hi]
    unfold strconv_AppendUint.f
    rw [if_pos ⟨rfl, hu, by rw [List.length_append, nums_length, List.length_singleton]; omega⟩, Option.bind_some, w64 (by omega) (by omega)]
    rw [show nums bs ++ [32] ++ nums (Lib.decDigits ns[i].toNat) = nums (bs ++ (32 :: Lib.decDigits ns[i].toNat)) from by rw [nums_append]; simp [nums], show (i : Int) + 1 = ((i + 1 : Nat) : Int) from rfl, ih (i + 1) k _ (by omega) (by omega) (by omega) (by rw [List.length_append, List.length_cons]; omega)]
    have e : numsText (ns.drop i) = (32 :: Lib.decDigits ns[i].toNat) ++ numsText (ns.drop (i + 1)) := by rw [List.drop_eq_getElem_cons hi]; rfl
    rw [e, List.append_assoc bs]
theorem line_is (ns : List Int) (hw : ∀ n ∈ ns, u64ok n) (hl : ns.length ≤ 1000000000) (k : Nat) (hk : ns.length < k) : script_line.f k ns = some (mk (lineText ns)) := by
  unfold script_line.f
  obtain ⟨k, rfl⟩ : ∃ m, k = m + 1 := ⟨k - 1, by omega⟩
  cases ns with
  | nil => rfl
  | cons n ns =>
    have hu := hw n List.mem_cons_self
    simp only [script_line.l0]
    have hr := rd_get (n :: ns) 0 (by simp)
    rw [show ((0 : Nat) : Int) = 0 from rfl] at hr
    simp only [List.getElem_cons_zero] at hr
    rw [if_pos (by simp only [List.length_cons]; omega), if_pos (by omega), if_pos (by simp only [List.length_cons]; omega), if_neg (by omega), hr]
    unfold strconv_AppendUint.f
    have hd := dec_len hu
    rw [if_pos ⟨rfl, hu, by simp⟩, Option.bind_some, w64 (by omega) (by omega)]
    have := line_l0 (n :: ns) hw hl ns.length 1 k (Lib.decDigits n.toNat) (by simp; omega) (by omega) (by simp only [List.length_cons] at hk; omega) (by omega)
    simp only [List.nil_append]
    exact this
end Go.Proofs.YtlfoaaeelcmhiaaDoor.Pure
end

section
-- Written by a program of this session (wip/gprint.py: the kit's print, with contracts proved by hand)
namespace Go.Proofs.YtlfoaaeelcmhiaaDoor.G
open Go.RowKit Go.Proofs.YtlfoaaeelcmhiaaDoorW.PrintWords Go.Proofs.YtlfoaaeelcmhiaaDoorW.PrintLast Go.Proofs.YtlfoaaeelcmhiaaDoorW.PrintMore
attribute [local go_sem] max2_int min2_int max_two min_two max_three min_three max_four min_four   -- for this text's walks alone
set_option linter.unusedVariables false
set_option linter.unusedSimpArgs false

/-! ### inclineref21_signed: function 34 -/
def inclineref21_signed.f (k : Nat) (a0 : Int) : Option (ByteArray) := if a0 < 0 then ((inclineref21_digits.f k (IntKind.u64.wrap (-(IntKind.u64.wrap (a0))))).bind fun t387 => (if 1 + t387.size ≤ 9223372036854775807 then (some ((⟨#[45]⟩ : ByteArray) ++ t387)) else (none))) else ((inclineref21_digits.f k (IntKind.u64.wrap (a0))).bind fun t388 => (some t388))
theorem inclineref21_signed.mono : ∀ a0 k, LeO (inclineref21_signed.f k a0) (inclineref21_signed.f (k + 1) a0) := by
  intro a0 k
  unfold inclineref21_signed.f
  repeat' first
      | (with_reducible exact inclineref21_digits.mono _ _)
      | (with_reducible exact LeO.refl _)
      | (with_reducible exact LeO.none _)
      | (with_reducible refine LeO.ite ?_ ?_)
      | (with_reducible refine LeO.bind ?_ (fun _ => ?_))
      | exact inclineref21_digits.mono _ _
      | exact LeO.none _
      | refine LeO.ite ?_ ?_
      | refine LeO.bind ?_ (fun _ => ?_)
set_option maxHeartbeats 8000000 in
set_option maxRecDepth 100000 in
theorem inclineref21_signed.calls (k : Nat) (a0 : Int) (r : ByteArray) (w : World) (h : inclineref21_signed.f k a0 = some r) :
    Calls Tryd.prog 34 #[.int .i64 a0] w fun e w' => e = .returned (.string r) ∧ Below w.heap.size w w' := by
  have HB := Aside0.mk (Below.refl w.heap.size w)
  have H : (if a0 < 0 then ((inclineref21_digits.f k (IntKind.u64.wrap (-(IntKind.u64.wrap (a0))))).bind fun t387 => (if 1 + t387.size ≤ 9223372036854775807 then (some ((⟨#[45]⟩ : ByteArray) ++ t387)) else (none))) else ((inclineref21_digits.f k (IntKind.u64.wrap (a0))).bind fun t388 => (some t388))) = some r := h
  clear h
  by_cases c2 : a0 < 0
  · rw [if_pos c2] at H
    have c2b0 : decide (a0 < 0) = true := decide_eq_true c2
    clear c2
    replace H := Option.bind_eq_some_iff.mp H
    obtain ⟨t387, A30, H⟩ := H
    replace H : (if 1 + t387.size ≤ 9223372036854775807 then (some ((⟨#[45]⟩ : ByteArray) ++ t387)) else (none)) = some r := H
    have A3 := Aside0.mk A30
    clear A30
    by_cases c4 : 1 + t387.size ≤ 9223372036854775807
    · rw [if_pos c4] at H
      have c4b0 := eq_true c4
      have c4b1 : decide (1 + t387.size ≤ 9223372036854775807) = true := decide_eq_true c4
      try have c4b2 : (9223372036854775807 < 1 + t387.size) = False := eq_false (Nat.not_lt.2 c4)
      obtain rfl := Option.some.inj H
      go_enter Tryd.func34, Tryd.ntmps34
      go_wp2_with (first | ((with_reducible refine gate_callee (f := 30) rfl ?_); refine goesL_ (some 8) rfl rfl Tryd.func30 (by kernel_rfl) rfl #[.int .u64 (IntKind.u64.wrap (-(IntKind.u64.wrap (a0))))] rfl (by (try simp only [List.map_toArray, List.map_cons, List.map_nil]); first | done | rfl | (simp only [List.length_drop, List.length_take]; rfl)) ?_; (with_reducible refine (inclineref21_digits.calls k (IntKind.u64.wrap (-(IntKind.u64.wrap (a0)))) t387 _ A3.out).mono ?_); rintro e w5 ⟨rfl, hb⟩; refine ⟨_, rfl, ?_⟩; have n0_ := Aside0.mk (below_step (by repeat (first | (with_reducible first | exact HB.out | apply below_alloc | apply pw_below_drewN | apply below_drew1) | exact HB.out)) hb); clear HB; have HB := n0_; clear n0_; (try clear hb); (try clear hb2); (try clear hk); (try clear hi)))
      go_ret
      exact ⟨by first | rfl | (simp [errW_none, errW_some] <;> rfl) | (simp [*, errW_none, errW_some] <;> rfl), by repeat (first | (with_reducible first | exact HB.out | apply below_alloc | apply pw_below_drewN | apply below_drew1) | exact HB.out)⟩
    · rw [if_neg c4] at H
      exact absurd H (by simp)
  · rw [if_neg c2] at H
    have c2b0 : decide (a0 < 0) = false := decide_eq_false c2
    clear c2
    replace H := Option.bind_eq_some_iff.mp H
    obtain ⟨t388, A60, H⟩ := H
    replace H : (some t388) = some r := H
    have A6 := Aside0.mk A60
    clear A60
    obtain rfl := Option.some.inj H
    go_enter Tryd.func34, Tryd.ntmps34
    go_wp2_with (first | ((with_reducible refine gate_callee (f := 30) rfl ?_); refine goesL_ (some 12) rfl rfl Tryd.func30 (by kernel_rfl) rfl #[.int .u64 (IntKind.u64.wrap (a0))] rfl (by (try simp only [List.map_toArray, List.map_cons, List.map_nil]); first | done | rfl | (simp only [List.length_drop, List.length_take]; rfl)) ?_; (with_reducible refine (inclineref21_digits.calls k (IntKind.u64.wrap (a0)) t388 _ A6.out).mono ?_); rintro e w7 ⟨rfl, hb⟩; refine ⟨_, rfl, ?_⟩; have n0_ := Aside0.mk (below_step (by repeat (first | (with_reducible first | exact HB.out | apply below_alloc | apply pw_below_drewN | apply below_drew1) | exact HB.out)) hb); clear HB; have HB := n0_; clear n0_; (try clear hb); (try clear hb2); (try clear hk); (try clear hi)))
    go_ret
    exact ⟨by first | rfl | (simp [errW_none, errW_some] <;> rfl) | (simp [*, errW_none, errW_some] <;> rfl), by repeat (first | (with_reducible first | exact HB.out | apply below_alloc | apply pw_below_drewN | apply below_drew1) | exact HB.out)⟩

end Go.Proofs.YtlfoaaeelcmhiaaDoor.G
end
