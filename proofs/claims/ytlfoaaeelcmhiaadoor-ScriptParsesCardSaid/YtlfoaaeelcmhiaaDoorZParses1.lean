/- The last of the claim's own texts, in one file: Gx15, Gx18, Gx19, Gx20, PlainQ, Mutate, WalkParses, RowScriptParses. Conditions: each theorem's own. -/
import Derived.Test.YtlfoaaeelcmhiaaDoorZBase1
import Derived.Test.YtlfoaaeelcmhiaaDoorZBase2
import Derived.Deep.Slices
import Derived.Test.YtlfoaaeelcmhiaaDoorZBase4
import Derived.Test.YtlfoaaeelcmhiaaDoorRows
import Derived.Test.YtlfoaaeelcmhiaaDoorCards
import Derived.Test.YtlfoaaeelcmhiaaDoorTie
import Derived.WalkKit
import Derived.ProofKit
import Derived.OpenShut
import Derived.ShutString
import Derived.ChangeOld
import Derived.Below
import Derived.SizedLaws
import Derived.JoinedCond
import Derived.Deep.CondSized
section
-- Written by a program of this session (wip/gprint.py: the kit's print, with contracts proved by hand)
namespace Go.Proofs.YtlfoaaeelcmhiaaDoor.G
open Go.RowKit Go.Proofs.YtlfoaaeelcmhiaaDoorW.PrintWords Go.Proofs.YtlfoaaeelcmhiaaDoorW.PrintLast Go.Proofs.YtlfoaaeelcmhiaaDoorW.PrintMore
attribute [local go_sem] max2_int min2_int max_two min_two max_three min_three max_four min_four   -- for this text's walks alone
set_option linter.unusedVariables false
set_option linter.unusedSimpArgs false

/-! ### inclineref21_split: function 25 -/
def inclineref21_split.l0 : Nat → ByteArray → Int → List ByteArray → Int → Int → Option (List ByteArray)
  | 0, _, _, _, _, _ => none
  | k + 1, x0, x1, x5, x6, x7 => if x7 ≤ (x0.size : Int) then (if x7 = (x0.size : Int) then (if 0 ≤ x6 then (if x6 ≤ x7 then (if x5.length < 8796093022208 then (inclineref21_split.l0 k x0 x1 (x5 ++ [x0.extract (x6 : Int).toNat (x7 : Int).toNat]) (wrap64 (x7 + 1)) (wrap64 (x7 + 1))) else (none)) else (none)) else (none)) else (if 0 ≤ x7 then (if x7 < (x0.size : Int) then (if (bt x0 x7) = x1 then (if 0 ≤ x6 then (if x6 ≤ x7 then (if x5.length < 8796093022208 then (inclineref21_split.l0 k x0 x1 (x5 ++ [x0.extract (x6 : Int).toNat (x7 : Int).toNat]) (wrap64 (x7 + 1)) (wrap64 (x7 + 1))) else (none)) else (none)) else (none)) else (inclineref21_split.l0 k x0 x1 x5 x6 (wrap64 (x7 + 1)))) else (none)) else (none))) else (some x5)
def inclineref21_split.f (k : Nat) (a0 : ByteArray) (a1 : Int) : Option (List ByteArray) := inclineref21_split.l0 k a0 a1 (([] : List ByteArray)) 0 0
theorem inclineref21_split.mono_l : ∀ k, (∀ y0 y1 y2 y3 y4, LeO (inclineref21_split.l0 k y0 y1 y2 y3 y4) (inclineref21_split.l0 (k + 1) y0 y1 y2 y3 y4))
  | 0 => fun _ _ _ _ _ r h => by simp [inclineref21_split.l0] at h
  | k + 1 => by
    have ih0 := inclineref21_split.mono_l k
    · intro y0 y1 y2 y3 y4
      unfold inclineref21_split.l0
      repeat' first
      | (with_reducible exact ih0 _ _ _ _ _)
      | (with_reducible exact LeO.refl _)
      | (with_reducible exact LeO.none _)
      | (with_reducible refine LeO.ite ?_ ?_)
      | (with_reducible refine LeO.bind ?_ (fun _ => ?_))
      | exact ih0 _ _ _ _ _
      | exact LeO.none _
      | refine LeO.ite ?_ ?_
      | refine LeO.bind ?_ (fun _ => ?_)
theorem inclineref21_split.mono : ∀ a0 a1 k, LeO (inclineref21_split.f k a0 a1) (inclineref21_split.f (k + 1) a0 a1) := by
  intro a0 a1 k
  have ih0 := inclineref21_split.mono_l k
  unfold inclineref21_split.f
  repeat' first
      | (with_reducible exact ih0 _ _ _ _ _)
      | (with_reducible exact LeO.refl _)
      | (with_reducible exact LeO.none _)
      | (with_reducible refine LeO.ite ?_ ?_)
      | (with_reducible refine LeO.bind ?_ (fun _ => ?_))
      | exact ih0 _ _ _ _ _
      | exact LeO.none _
      | refine LeO.ite ?_ ?_
      | refine LeO.bind ?_ (fun _ => ?_)
set_option maxHeartbeats 8000000 in
set_option maxRecDepth 100000 in
theorem inclineref21_split.calls (k : Nat) (a0 : ByteArray) (a1 : Int) (r : List ByteArray) (w : World) (h : inclineref21_split.f k a0 a1 = some r) :
    Calls Tryd.prog 25 #[.string a0, .int .u8 a1] w fun e w' => ∃ v0_ : Value, e = .returned (v0_) ∧ Kd.R Kd.string 9 w' w.heap.size (fun _ => True) v0_ r ∧ Below w.heap.size w w' := by
  have HB := Aside0.mk (Below.refl w.heap.size w)
  have H : (inclineref21_split.l0 k a0 a1 (([] : List ByteArray)) 0 0) = some r := h
  clear h
  obtain ⟨y243, hy243⟩ : ∃ y_ : List ByteArray, y_ = (([] : List ByteArray)) := ⟨_, rfl⟩
  replace H : (inclineref21_split.l0 k a0 a1 y243 0 0) = some r := by first | (rw [hy243]; with_reducible exact H) | (have H2_ := (Option.bind_some _ _).symm.trans H; rw [hy243]; with_reducible exact H2_) | (have H2_ := (Option.bind_some _ _).symm.trans H; with_reducible exact H2_) | with_reducible exact H | (rw [hy243]; exact H) | exact H
  have Ny243 := Aside0.mk hy243
  clear hy243
  have H' := Aside0.mk H
  clear H
  go_enter Tryd.func25, Tryd.ntmps25
  go_wp2_with (first | ((with_reducible refine gate_dst (N := 8) rfl ?_); refine Kd.R_lit Kd.string _ 9 ?hg (N := 8) ?hd (xs := ([] : List ByteArray)) (inner := []) (ok := fun _ => True) (okp := fun _ => True) ?hr ?hp (fun _ hk => hk) trivial (Below.refl _ _) (Nat.le_refl _) (by simp) ?_; (case hd => rfl); (case hg => rfl); (case hr => first | (go_simp; done) | (go_simp; rfl)); (case hp => exact (Reps.none _ _)); intro v244 w3 ho4 hb hg_ hnew_; clear hg_ hnew_; (first | rw [← Ny243.out] at ho4 | (simp only [Int.reduceToNat] at ho4; rw [← Ny243.out] at ho4)); have n0_ := Aside0.mk (Kd.R_lower ho4 (below_size (by repeat (first | (with_reducible first | exact HB.out | apply below_alloc | apply pw_below_drewN | apply below_drew1) | exact HB.out)))); have n1_ := Aside0.mk (below_step (by repeat (first | (with_reducible first | exact HB.out | apply below_alloc | apply pw_below_drewN | apply below_drew1) | exact HB.out)) hb); clear HB; have HO245 := n0_; have HB := n1_; clear n0_ n1_; clear hb ho4))
  go_loopg [5, 6, 7] k (fun kq v5 v6 v7 w' => ∃ (x5_1 : List ByteArray) (x6_1 : Int) (x7_1 : Int), v6 = .int .i64 x6_1 ∧ v7 = .int .i64 x7_1 ∧ Aside0 (inclineref21_split.l0 kq a0 a1 x5_1 x6_1 x7_1 = some r) ∧ Aside0 (kq ≤ k) ∧ Aside0 (Kd.R Kd.string 9 w' w.heap.size (fun _ => True) v5 x5_1) ∧ Aside0 (Below w.heap.size w w'))
  case atStart => exact ⟨(y243), (0), (0), (by first | rfl | (simp; done) | (simp [*]; done)), (by first | rfl | (simp; done) | (simp [*]; done)), H', ⟨Nat.le_refl _⟩, ⟨by (with_reducible repeat (first | apply Kd.R_alloc | apply Kd.R_drewN | apply Kd.R_drew)); exact HO245.out⟩, ⟨by repeat (first | (with_reducible first | exact HB.out | apply below_alloc | apply pw_below_drewN | apply below_drew1) | exact HB.out)⟩⟩
  case round =>
    clear H'
    try clear c2
    try clear p2
    obtain ⟨x5_1, x6_1, x7_1, rfl, rfl, HA, HK1, HO_5, HB⟩ := hrel
    cases gk with
    | zero => exact absurd HA.out (by simp [inclineref21_split.l0])
    | succ k1 =>
      have H := HA.out
      clear HA
      simp only [inclineref21_split.l0] at H
      by_cases c5 : x7_1 ≤ (a0.size : Int)
      · rw [if_pos c5] at H
        have c5b0 : decide (x7_1 ≤ (a0.size : Int)) = true := decide_eq_true c5
        clear c5
        by_cases c6 : x7_1 = (a0.size : Int)
        · rw [if_pos c6] at H
          have c6b0 : (x7_1 == (a0.size : Int)) = true := beq_iff_eq.mpr c6
          have c6b1 : (x7_1 != (a0.size : Int)) = false := bne_eq_false_iff_eq.mpr c6
          clear c6
          by_cases c7 : 0 ≤ x6_1
          · rw [if_pos c7] at H
            have c7b0 := eq_true c7
            have c7b1 : decide (0 ≤ x6_1) = true := decide_eq_true c7
            clear c7
            by_cases c8 : x6_1 ≤ x7_1
            · rw [if_pos c8] at H
              have c8b0 := eq_true c8
              have c8b1 : decide (x6_1 ≤ x7_1) = true := decide_eq_true c8
              clear c8
              have c9b0 := eq_true (of_decide_eq_true (by first | (with_reducible assumption) | assumption) : x7_1 ≤ (a0.size : Int))
              by_cases c10 : x5_1.length < 8796093022208
              · rw [if_pos c10] at H
                have LMc10 := Aside0.mk c10
                clear c10
                obtain ⟨y246, hy246⟩ : ∃ y_ : List ByteArray, y_ = (x5_1 ++ [a0.extract (x6_1 : Int).toNat (x7_1 : Int).toNat]) := ⟨_, rfl⟩
                replace H : (inclineref21_split.l0 k1 a0 a1 y246 (wrap64 (x7_1 + 1)) (wrap64 (x7_1 + 1))) = some r := by first | (rw [hy246]; with_reducible exact H) | (have H2_ := (Option.bind_some _ _).symm.trans H; rw [hy246]; with_reducible exact H2_) | (have H2_ := (Option.bind_some _ _).symm.trans H; with_reducible exact H2_) | with_reducible exact H | (rw [hy246]; exact H) | exact H
                have Ny246 := Aside0.mk hy246
                clear hy246
                have H' := Aside0.mk H
                clear H
                go_wp2_with (first | ((with_reducible refine gate_builtin (b := .append) (xs := #[.tmp 26, .tmp 31]) rfl ?_); at_builtin; refine Kd.R_append Kd.string (w0 := w) w.heap.size rfl (.tmp 26) (.tmp 31) 54 9 (.string ⟨#[]⟩) 16 rfl Tryd.underlying54 info9 rfl (by decide) (by omega) u5 x5_1 (a0.extract (x6_1 : Int).toNat (x7_1 : Int).toNat) [.string (a0.extract (x6_1 : Int).toNat (x7_1 : Int).toNat)] (fun _ => True) (fun _ => False) rfl rfl ?aP (fun _ hk => hk.elim) ?aF ?aO ?aB ?aS ?aL ?_; (case aP => exact rfl); (case aB => exact (by repeat (first | (with_reducible first | exact HB.out | apply below_alloc | apply pw_below_drewN | apply below_drew1) | exact HB.out))); (case aF => exact (fun _ _ => trivial)); (case aO => exact (by (with_reducible repeat (first | apply Kd.R_alloc | apply Kd.R_drewN | apply Kd.R_drew)); exact HO_5.out)); (case aS => exact (below_size (by repeat (first | (with_reducible first | exact HB.out | apply below_alloc | apply pw_below_drewN | apply below_drew1) | exact HB.out)))); (case aL => have := LMc10.out; omega); intro v247 w11 ho hb hg hat; rw [← Ny246.out] at ho; have n0_ := Aside0.mk (hb); have n1_ := Aside0.mk (ho); clear HB; clear HO_5; have HB := n0_; have HO248 := n1_; clear n0_ n1_; clear ho hb hg hat))
                go_roundg k1
                case measure => have := HK1.out; omega
                case rel => exact ⟨(y246), (wrap64 (x7_1 + 1)), (wrap64 (x7_1 + 1)), (by first | rfl | (simp; done) | (simp [*]; done)), (by first | rfl | (simp; done) | (simp [*]; done)), H', ⟨by have := HK1.out; omega⟩, ⟨by (with_reducible repeat (first | apply Kd.R_alloc | apply Kd.R_drewN | apply Kd.R_drew)); exact HO248.out⟩, ⟨by repeat (first | (with_reducible first | exact HB.out | apply below_alloc | apply pw_below_drewN | apply below_drew1) | exact HB.out)⟩⟩
              · rw [if_neg c10] at H
                exact absurd H (by simp)
            · rw [if_neg c8] at H
              exact absurd H (by simp)
          · rw [if_neg c7] at H
            exact absurd H (by simp)
        · rw [if_neg c6] at H
          have c6b0 : (x7_1 == (a0.size : Int)) = false := beq_eq_false_iff_ne.mpr c6
          have c6b1 : (x7_1 != (a0.size : Int)) = true := bne_iff_ne.mpr c6
          by_cases c12 : 0 ≤ x7_1
          · rw [if_pos c12] at H
            have c12b0 : decide (0 ≤ x7_1) = true := decide_eq_true c12
            clear c12
            by_cases c13 : x7_1 < (a0.size : Int)
            · rw [if_pos c13] at H
              have c13b0 : decide (x7_1 < (a0.size : Int)) = true := decide_eq_true c13
              clear c13
              by_cases c15 : (bt a0 x7_1) = a1
              · rw [if_pos c15] at H
                have c15b0 : ((bt a0 x7_1) == a1) = true := beq_iff_eq.mpr c15
                have c15b1 : ((bt a0 x7_1) != a1) = false := bne_eq_false_iff_eq.mpr c15
                clear c15
                by_cases c16 : 0 ≤ x6_1
                · rw [if_pos c16] at H
                  have c16b0 := eq_true c16
                  have c16b1 : decide (0 ≤ x6_1) = true := decide_eq_true c16
                  clear c16
                  by_cases c17 : x6_1 ≤ x7_1
                  · rw [if_pos c17] at H
                    have c17b0 := eq_true c17
                    have c17b1 : decide (x6_1 ≤ x7_1) = true := decide_eq_true c17
                    clear c17
                    have c18b0 := eq_true (of_decide_eq_true (by first | (with_reducible assumption) | assumption) : x7_1 ≤ (a0.size : Int))
                    by_cases c19 : x5_1.length < 8796093022208
                    · rw [if_pos c19] at H
                      have LMc19 := Aside0.mk c19
                      clear c19
                      obtain ⟨y249, hy249⟩ : ∃ y_ : List ByteArray, y_ = (x5_1 ++ [a0.extract (x6_1 : Int).toNat (x7_1 : Int).toNat]) := ⟨_, rfl⟩
                      replace H : (inclineref21_split.l0 k1 a0 a1 y249 (wrap64 (x7_1 + 1)) (wrap64 (x7_1 + 1))) = some r := by first | (rw [hy249]; with_reducible exact H) | (have H2_ := (Option.bind_some _ _).symm.trans H; rw [hy249]; with_reducible exact H2_) | (have H2_ := (Option.bind_some _ _).symm.trans H; with_reducible exact H2_) | with_reducible exact H | (rw [hy249]; exact H) | exact H
                      have Ny249 := Aside0.mk hy249
                      clear hy249
                      have H' := Aside0.mk H
                      clear H
                      have p14 : 0 ≤ (x7_1 : Int) := of_decide_eq_true (by first | (with_reducible assumption) | assumption)
                      have q14 : x7_1 < (a0.size : Int) := of_decide_eq_true (by first | (with_reducible assumption) | assumption)
                      have hx14 := bt_at a0 x7_1
                      replace p14 := eq_true p14
                      replace q14 := eq_true q14
                      go_wp2_with (first | ((with_reducible refine gate_builtin (b := .append) (xs := #[.tmp 26, .tmp 31]) rfl ?_); at_builtin; refine Kd.R_append Kd.string (w0 := w) w.heap.size rfl (.tmp 26) (.tmp 31) 54 9 (.string ⟨#[]⟩) 16 rfl Tryd.underlying54 info9 rfl (by decide) (by omega) u5 x5_1 (a0.extract (x6_1 : Int).toNat (x7_1 : Int).toNat) [.string (a0.extract (x6_1 : Int).toNat (x7_1 : Int).toNat)] (fun _ => True) (fun _ => False) rfl rfl ?aP (fun _ hk => hk.elim) ?aF ?aO ?aB ?aS ?aL ?_; (case aP => exact rfl); (case aB => exact (by repeat (first | (with_reducible first | exact HB.out | apply below_alloc | apply pw_below_drewN | apply below_drew1) | exact HB.out))); (case aF => exact (fun _ _ => trivial)); (case aO => exact (by (with_reducible repeat (first | apply Kd.R_alloc | apply Kd.R_drewN | apply Kd.R_drew)); exact HO_5.out)); (case aS => exact (below_size (by repeat (first | (with_reducible first | exact HB.out | apply below_alloc | apply pw_below_drewN | apply below_drew1) | exact HB.out)))); (case aL => have := LMc19.out; omega); intro v250 w20 ho hb hg hat; rw [← Ny249.out] at ho; have n0_ := Aside0.mk (hb); have n1_ := Aside0.mk (ho); clear HB; clear HO_5; have HB := n0_; have HO251 := n1_; clear n0_ n1_; clear ho hb hg hat))
                      go_roundg k1
                      case measure => have := HK1.out; omega
                      case rel => exact ⟨(y249), (wrap64 (x7_1 + 1)), (wrap64 (x7_1 + 1)), (by first | rfl | (simp; done) | (simp [*]; done)), (by first | rfl | (simp; done) | (simp [*]; done)), H', ⟨by have := HK1.out; omega⟩, ⟨by (with_reducible repeat (first | apply Kd.R_alloc | apply Kd.R_drewN | apply Kd.R_drew)); exact HO251.out⟩, ⟨by repeat (first | (with_reducible first | exact HB.out | apply below_alloc | apply pw_below_drewN | apply below_drew1) | exact HB.out)⟩⟩
                    · rw [if_neg c19] at H
                      exact absurd H (by simp)
                  · rw [if_neg c17] at H
                    exact absurd H (by simp)
                · rw [if_neg c16] at H
                  exact absurd H (by simp)
              · rw [if_neg c15] at H
                have c15b0 : ((bt a0 x7_1) == a1) = false := beq_eq_false_iff_ne.mpr c15
                have c15b1 : ((bt a0 x7_1) != a1) = true := bne_iff_ne.mpr c15
                have H' := Aside0.mk H
                clear H
                have p14 : 0 ≤ (x7_1 : Int) := of_decide_eq_true (by first | (with_reducible assumption) | assumption)
                have q14 : x7_1 < (a0.size : Int) := of_decide_eq_true (by first | (with_reducible assumption) | assumption)
                have hx14 := bt_at a0 x7_1
                replace p14 := eq_true p14
                replace q14 := eq_true q14
                go_wp2
                go_roundg k1
                case measure => have := HK1.out; omega
                case rel => exact ⟨(x5_1), (x6_1), (wrap64 (x7_1 + 1)), (by first | rfl | (simp; done) | (simp [*]; done)), (by first | rfl | (simp; done) | (simp [*]; done)), H', ⟨by have := HK1.out; omega⟩, ⟨by (with_reducible repeat (first | apply Kd.R_alloc | apply Kd.R_drewN | apply Kd.R_drew)); exact HO_5.out⟩, ⟨by repeat (first | (with_reducible first | exact HB.out | apply below_alloc | apply pw_below_drewN | apply below_drew1) | exact HB.out)⟩⟩
            · rw [if_neg c13] at H
              exact absurd H (by simp)
          · rw [if_neg c12] at H
            exact absurd H (by simp)
      · rw [if_neg c5] at H
        have c5b0 : decide (x7_1 ≤ (a0.size : Int)) = false := decide_eq_false c5
        clear c5
        obtain rfl := Option.some.inj H
        go_wp2
        go_ret
        exact ⟨_, by first | rfl | (simp [errW_none, errW_some] <;> rfl) | (simp [*, errW_none, errW_some] <;> rfl), by (with_reducible repeat (first | apply Kd.R_alloc | apply Kd.R_drewN | apply Kd.R_drew)); exact HO_5.out, by repeat (first | (with_reducible first | exact HB.out | apply below_alloc | apply pw_below_drewN | apply below_drew1) | exact HB.out)⟩

end Go.Proofs.YtlfoaaeelcmhiaaDoor.G
end

section
-- Written by a program of this session (wip/gprint.py: the kit's print, with contracts proved by hand)
namespace Go.Proofs.YtlfoaaeelcmhiaaDoor.G
open Go.RowKit Go.Proofs.YtlfoaaeelcmhiaaDoorW.PrintWords Go.Proofs.YtlfoaaeelcmhiaaDoorW.PrintLast Go.Proofs.YtlfoaaeelcmhiaaDoorW.PrintMore
attribute [local go_sem] max2_int min2_int max_two min_two max_three min_three max_four min_four   -- for this text's walks alone
set_option linter.unusedVariables false
set_option linter.unusedSimpArgs false

/-! ### inclineref21_number: function 40 -/
mutual
def inclineref21_number.l0 : Nat → ByteArray → Int → Int → Option (Int × Bool)
  | 0, _, _, _ => none
  | k + 1, x0, x4, x5 => if x5 < (x0.size : Int) then (if 0 ≤ x5 then (if (bt x0 x5) < 48 then (inclineref21_number.j1 k x0 x4 x5 true) else (if (bt x0 x5) > 57 then (inclineref21_number.j1 k x0 x4 x5 true) else (inclineref21_number.j1 k x0 x4 x5 (decide (x5 > 19))))) else (none)) else ((inclineref21_digits.f k x4).bind fun t258 => (some (x4, (t258.toList == x0.toList))))
def inclineref21_number.j1 : Nat → ByteArray → Int → Int → Bool → Option (Int × Bool)
  | 0, _, _, _, _ => none
  | k + 1, x0, x4, x5, x26 => if x26 = true then (some (0, false)) else (if 0 ≤ x5 then (if x5 < (x0.size : Int) then (if x4 > ((18446744073709551615 - (((bt x0 x5) - 48) % 256)) / 10) then (some (0, false)) else (inclineref21_number.l0 k x0 (IntKind.u64.wrap ((IntKind.u64.wrap (10 * x4)) + (((bt x0 x5) - 48) % 256))) (wrap64 (x5 + 1)))) else (none)) else (none))
end
def inclineref21_number.f (k : Nat) (a0 : ByteArray) : Option (Int × Bool) := inclineref21_number.l0 k a0 0 0
theorem inclineref21_number.mono_l : ∀ k, (∀ y0 y1 y2, LeO (inclineref21_number.l0 k y0 y1 y2) (inclineref21_number.l0 (k + 1) y0 y1 y2)) ∧ (∀ y0 y1 y2 y3, LeO (inclineref21_number.j1 k y0 y1 y2 y3) (inclineref21_number.j1 (k + 1) y0 y1 y2 y3))
  | 0 => ⟨fun _ _ _ r h => by simp [inclineref21_number.l0] at h, fun _ _ _ _ r h => by simp [inclineref21_number.j1] at h⟩
  | k + 1 => by
    obtain ⟨ih0, ih1⟩ := inclineref21_number.mono_l k
    refine ⟨?_, ?_⟩
    · intro y0 y1 y2
      unfold inclineref21_number.l0
      repeat' first
      | (with_reducible exact ih0 _ _ _)
      | (with_reducible exact ih1 _ _ _ _)
      | (with_reducible exact inclineref21_digits.mono _ _)
      | (with_reducible exact LeO.refl _)
      | (with_reducible exact LeO.none _)
      | (with_reducible refine LeO.ite ?_ ?_)
      | (with_reducible refine LeO.bind ?_ (fun _ => ?_))
      | exact ih0 _ _ _
      | exact ih1 _ _ _ _
      | exact inclineref21_digits.mono _ _
      | exact LeO.none _
      | refine LeO.ite ?_ ?_
      | refine LeO.bind ?_ (fun _ => ?_)
    · intro y0 y1 y2 y3
      unfold inclineref21_number.j1
      repeat' first
      | (with_reducible exact ih0 _ _ _)
      | (with_reducible exact ih1 _ _ _ _)
      | (with_reducible exact inclineref21_digits.mono _ _)
      | (with_reducible exact LeO.refl _)
      | (with_reducible exact LeO.none _)
      | (with_reducible refine LeO.ite ?_ ?_)
      | (with_reducible refine LeO.bind ?_ (fun _ => ?_))
      | exact ih0 _ _ _
      | exact ih1 _ _ _ _
      | exact inclineref21_digits.mono _ _
      | exact LeO.none _
      | refine LeO.ite ?_ ?_
      | refine LeO.bind ?_ (fun _ => ?_)
theorem inclineref21_number.mono : ∀ a0 k, LeO (inclineref21_number.f k a0) (inclineref21_number.f (k + 1) a0) := by
  intro a0 k
  obtain ⟨ih0, ih1⟩ := inclineref21_number.mono_l k
  unfold inclineref21_number.f
  repeat' first
      | (with_reducible exact ih0 _ _ _)
      | (with_reducible exact ih1 _ _ _ _)
      | (with_reducible exact inclineref21_digits.mono _ _)
      | (with_reducible exact LeO.refl _)
      | (with_reducible exact LeO.none _)
      | (with_reducible refine LeO.ite ?_ ?_)
      | (with_reducible refine LeO.bind ?_ (fun _ => ?_))
      | exact ih0 _ _ _
      | exact ih1 _ _ _ _
      | exact inclineref21_digits.mono _ _
      | exact LeO.none _
      | refine LeO.ite ?_ ?_
      | refine LeO.bind ?_ (fun _ => ?_)
set_option maxHeartbeats 8000000 in
set_option maxRecDepth 100000 in
theorem inclineref21_number.calls (k : Nat) (a0 : ByteArray) (r1 : Int) (r2 : Bool) (w : World) (h : inclineref21_number.f k a0 = some (r1, r2)) :
    Calls Tryd.prog 40 #[.string a0] w fun e w' => e = .returned (.tuple #[.int .u64 r1, .bool r2]) ∧ Below w.heap.size w w' := by
  have HB := Aside0.mk (Below.refl w.heap.size w)
  have H : (inclineref21_number.l0 k a0 0 0) = some (r1, r2) := h
  clear h
  have H' := Aside0.mk H
  clear H
  go_enter Tryd.func40, Tryd.ntmps40
  go_wp2
  go_loopg [4, 5] k (fun kq v4 v5 w' => ∃ (x4_1 : Int) (x5_1 : Int), v4 = .int .u64 x4_1 ∧ v5 = .int .i64 x5_1 ∧ Aside0 (inclineref21_number.l0 kq a0 x4_1 x5_1 = some (r1, r2)) ∧ Aside0 (kq ≤ k) ∧ Aside0 (Below w.heap.size w w'))
  case atStart => exact ⟨(0), (0), (by first | rfl | (simp; done) | (simp [*]; done)), (by first | rfl | (simp; done) | (simp [*]; done)), H', ⟨Nat.le_refl _⟩, ⟨by repeat (first | (with_reducible first | exact HB.out | apply below_alloc | apply pw_below_drewN | apply below_drew1) | exact HB.out)⟩⟩
  case round =>
    clear H'
    obtain ⟨x4_1, x5_1, rfl, rfl, HA, HK1, HB⟩ := hrel
    cases gk with
    | zero => exact absurd HA.out (by simp [inclineref21_number.l0])
    | succ k1 =>
      have H := HA.out
      clear HA
      simp only [inclineref21_number.l0] at H
      by_cases c2 : x5_1 < (a0.size : Int)
      · rw [if_pos c2] at H
        have c2b0 : decide (x5_1 < (a0.size : Int)) = true := decide_eq_true c2
        clear c2
        have HC3 := Aside0.mk H
        clear H
        go_upto_region 5 with (fail)
        go_cut [26] (fun v26 wc => ∃ (kq : Nat) (x26_2 : Bool), v26 = .bool x26_2 ∧ Aside0 (inclineref21_number.j1 kq a0 x4_1 x5_1 x26_2 = some (r1, r2)) ∧ Aside0 (kq ≤ k1) ∧ Aside0 (Below w.heap.size w wc))
        case first =>
          have H := HC3.out
          clear HC3
          by_cases c4 : 0 ≤ x5_1
          · rw [if_pos c4] at H
            have c4b0 : decide (0 ≤ x5_1) = true := decide_eq_true c4
            clear c4
            (first | rw [c4b0] | (simp only [i64_w, i32_w]; rw [c4b0]) | skip)
            by_cases c6 : (bt a0 x5_1) < 48
            · rw [if_pos c6] at H
              have c6b0 : decide ((bt a0 x5_1) < 48) = true := decide_eq_true c6
              clear c6
              have H' := Aside0.mk H
              clear H
              have p5 : 0 ≤ (x5_1 : Int) := of_decide_eq_true (by first | (with_reducible assumption) | assumption)
              have q5 : x5_1 < (a0.size : Int) := of_decide_eq_true (by first | (with_reducible assumption) | assumption)
              have hx5 := bt_at a0 x5_1
              replace p5 := eq_true p5
              replace q5 := eq_true q5
              go_wp2
              go_meet
              case rel => exact ⟨_, (true), (by first | rfl | (simp; done) | (simp [*]; done)), H', ⟨by have := HK1.out; first | omega | exact Nat.le_refl _⟩, ⟨by repeat (first | (with_reducible first | exact HB.out | apply below_alloc | apply pw_below_drewN | apply below_drew1) | exact HB.out)⟩⟩
            · rw [if_neg c6] at H
              have c6b0 : decide ((bt a0 x5_1) < 48) = false := decide_eq_false c6
              clear c6
              by_cases c8 : (bt a0 x5_1) > 57
              · rw [if_pos c8] at H
                have c8b0 : decide (57 < (bt a0 x5_1)) = true := decide_eq_true c8
                clear c8
                have H' := Aside0.mk H
                clear H
                have p5 : 0 ≤ (x5_1 : Int) := of_decide_eq_true (by first | (with_reducible assumption) | assumption)
                have q5 : x5_1 < (a0.size : Int) := of_decide_eq_true (by first | (with_reducible assumption) | assumption)
                have hx5 := bt_at a0 x5_1
                replace p5 := eq_true p5
                replace q5 := eq_true q5
                have p7 : 0 ≤ (x5_1 : Int) := of_decide_eq_true (by first | (with_reducible assumption) | assumption)
                have q7 : x5_1 < (a0.size : Int) := of_decide_eq_true (by first | (with_reducible assumption) | assumption)
                have hx7 := bt_at a0 x5_1
                replace p7 := eq_true p7
                replace q7 := eq_true q7
                go_wp2
                go_meet
                case rel => exact ⟨_, (true), (by first | rfl | (simp; done) | (simp [*]; done)), H', ⟨by have := HK1.out; first | omega | exact Nat.le_refl _⟩, ⟨by repeat (first | (with_reducible first | exact HB.out | apply below_alloc | apply pw_below_drewN | apply below_drew1) | exact HB.out)⟩⟩
              · rw [if_neg c8] at H
                have c8b0 : decide (57 < (bt a0 x5_1)) = false := decide_eq_false c8
                clear c8
                have H' := Aside0.mk H
                clear H
                have p5 : 0 ≤ (x5_1 : Int) := of_decide_eq_true (by first | (with_reducible assumption) | assumption)
                have q5 : x5_1 < (a0.size : Int) := of_decide_eq_true (by first | (with_reducible assumption) | assumption)
                have hx5 := bt_at a0 x5_1
                replace p5 := eq_true p5
                replace q5 := eq_true q5
                have p7 : 0 ≤ (x5_1 : Int) := of_decide_eq_true (by first | (with_reducible assumption) | assumption)
                have q7 : x5_1 < (a0.size : Int) := of_decide_eq_true (by first | (with_reducible assumption) | assumption)
                have hx7 := bt_at a0 x5_1
                replace p7 := eq_true p7
                replace q7 := eq_true q7
                go_wp2
                go_meet
                case rel => exact ⟨_, (decide (x5_1 > 19)), (by first | rfl | (simp; done) | (simp [*]; done)), H', ⟨by have := HK1.out; first | omega | exact Nat.le_refl _⟩, ⟨by repeat (first | (with_reducible first | exact HB.out | apply below_alloc | apply pw_below_drewN | apply below_drew1) | exact HB.out)⟩⟩
          · rw [if_neg c4] at H
            exact absurd H (by simp)
        case rest =>
          clear HC3
          try clear c2
          try clear c2b0
          try clear p2
          try clear c4
          try clear c4b0
          try clear p5
          try clear q5
          try clear hx5
          try clear c6
          try clear c6b0
          try clear p7
          try clear q7
          try clear hx7
          try clear c8
          try clear c8b0
          try clear p5
          try clear p7
          try clear q5
          try clear q7
          obtain ⟨kq, x26_2, rfl, HA, HJ2, HB⟩ := hcut
          cases kq with
          | zero => exact absurd HA.out (by simp [inclineref21_number.j1])
          | succ kj2 =>
            have H := HA.out
            clear HA
            simp only [inclineref21_number.j1] at H
            by_cases c9 : x26_2 = true
            · subst c9
              have H1 : (some (0, false)) = some (r1, r2) := by rw [if_pos rfl] at H; exact H
              clear H
              have H := H1
              clear H1
              simp only [Option.some.injEq, Prod.mk.injEq] at H
              obtain ⟨rfl, rfl⟩ := H
              go_wp2
              go_ret2
              exact ⟨by first | rfl | (simp [errW_none, errW_some] <;> rfl) | (simp [*, errW_none, errW_some] <;> rfl), by repeat (first | (with_reducible first | exact HB.out | apply below_alloc | apply pw_below_drewN | apply below_drew1) | exact HB.out)⟩
            · replace c9 := Bool.eq_false_iff.mpr c9
              subst c9
              have H1 : (if 0 ≤ x5_1 then (if x5_1 < (a0.size : Int) then (if x4_1 > ((18446744073709551615 - (((bt a0 x5_1) - 48) % 256)) / 10) then (some (0, false)) else (inclineref21_number.l0 kj2 a0 (IntKind.u64.wrap ((IntKind.u64.wrap (10 * x4_1)) + (((bt a0 x5_1) - 48) % 256))) (wrap64 (x5_1 + 1)))) else (none)) else (none)) = some (r1, r2) := by rw [if_neg (show ¬ (false = true) by decide)] at H; exact H
              clear H
              have H := H1
              clear H1
              by_cases c10 : 0 ≤ x5_1
              · rw [if_pos c10] at H
                have c10b0 : decide (0 ≤ x5_1) = true := decide_eq_true c10
                clear c10
                by_cases c11 : x5_1 < (a0.size : Int)
                · rw [if_pos c11] at H
                  have c11b0 : decide (x5_1 < (a0.size : Int)) = true := decide_eq_true c11
                  clear c11
                  by_cases c13 : x4_1 > ((18446744073709551615 - (((bt a0 x5_1) - 48) % 256)) / 10)
                  · rw [if_pos c13] at H
                    have c13b0 : decide (((18446744073709551615 - (((bt a0 x5_1) - 48) % 256)) / 10) < x4_1) = true := decide_eq_true c13
                    clear c13
                    simp only [Option.some.injEq, Prod.mk.injEq] at H
                    obtain ⟨rfl, rfl⟩ := H
                    have p12 : 0 ≤ (x5_1 : Int) := of_decide_eq_true (by first | (with_reducible assumption) | assumption)
                    have q12 : x5_1 < (a0.size : Int) := of_decide_eq_true (by first | (with_reducible assumption) | assumption)
                    have hx12 := bt_at a0 x5_1
                    replace p12 := eq_true p12
                    replace q12 := eq_true q12
                    go_wp2
                    go_ret2
                    exact ⟨by first | rfl | (simp [errW_none, errW_some] <;> rfl) | (simp [*, errW_none, errW_some] <;> rfl), by repeat (first | (with_reducible first | exact HB.out | apply below_alloc | apply pw_below_drewN | apply below_drew1) | exact HB.out)⟩
                  · rw [if_neg c13] at H
                    have c13b0 : decide (((18446744073709551615 - (((bt a0 x5_1) - 48) % 256)) / 10) < x4_1) = false := decide_eq_false c13
                    clear c13
                    have H' := Aside0.mk H
                    clear H
                    have p12 : 0 ≤ (x5_1 : Int) := of_decide_eq_true (by first | (with_reducible assumption) | assumption)
                    have q12 : x5_1 < (a0.size : Int) := of_decide_eq_true (by first | (with_reducible assumption) | assumption)
                    have hx12 := bt_at a0 x5_1
                    replace p12 := eq_true p12
                    replace q12 := eq_true q12
                    go_wp2
                    go_roundg kj2
                    case measure => have := HK1.out; have := HJ2.out; omega
                    case rel => exact ⟨(IntKind.u64.wrap ((IntKind.u64.wrap (10 * x4_1)) + (((bt a0 x5_1) - 48) % 256))), (wrap64 (x5_1 + 1)), (by first | rfl | (simp; done) | (simp [*]; done)), (by first | rfl | (simp; done) | (simp [*]; done)), H', ⟨by have := HK1.out; have := HJ2.out; omega⟩, ⟨by repeat (first | (with_reducible first | exact HB.out | apply below_alloc | apply pw_below_drewN | apply below_drew1) | exact HB.out)⟩⟩
                · rw [if_neg c11] at H
                  exact absurd H (by simp)
              · rw [if_neg c10] at H
                exact absurd H (by simp)
      · rw [if_neg c2] at H
        have c2b0 : decide (x5_1 < (a0.size : Int)) = false := decide_eq_false c2
        clear c2
        replace H := Option.bind_eq_some_iff.mp H
        obtain ⟨t258, A140, H⟩ := H
        replace H : (some (x4_1, (t258.toList == a0.toList))) = some (r1, r2) := H
        have A14 := Aside0.mk A140
        clear A140
        simp only [Option.some.injEq, Prod.mk.injEq] at H
        obtain ⟨rfl, rfl⟩ := H
        go_wp2_with (first | ((with_reducible refine gate_callee (f := 30) rfl ?_); refine goesL_ (some 43) rfl rfl Tryd.func30 (by kernel_rfl) rfl #[.int .u64 x4_1] rfl (by (try simp only [List.map_toArray, List.map_cons, List.map_nil]); first | done | rfl | (simp only [List.length_drop, List.length_take]; rfl)) ?_; (with_reducible refine (inclineref21_digits.calls k1 x4_1 t258 _ A14.out).mono ?_); rintro e w15 ⟨rfl, hb⟩; refine ⟨_, rfl, ?_⟩; have n0_ := Aside0.mk (below_step (by repeat (first | (with_reducible first | exact HB.out | apply below_alloc | apply pw_below_drewN | apply below_drew1) | exact HB.out)) hb); clear HB; have HB := n0_; clear n0_; (try clear hb); (try clear hb2); (try clear hk); (try clear hi)))
        go_ret2
        exact ⟨by first | rfl | (simp [errW_none, errW_some] <;> rfl) | (simp [*, errW_none, errW_some] <;> rfl), by repeat (first | (with_reducible first | exact HB.out | apply below_alloc | apply pw_below_drewN | apply below_drew1) | exact HB.out)⟩

end Go.Proofs.YtlfoaaeelcmhiaaDoor.G
end

section
-- Written by a program of this session (wip/gprint.py: the kit's print, with contracts proved by hand)
namespace Go.Proofs.YtlfoaaeelcmhiaaDoor.G
open Go.RowKit Go.Proofs.YtlfoaaeelcmhiaaDoorW.PrintWords Go.Proofs.YtlfoaaeelcmhiaaDoorW.PrintLast Go.Proofs.YtlfoaaeelcmhiaaDoorW.PrintMore
attribute [local go_sem] max2_int min2_int max_two min_two max_three min_three max_four min_four   -- for this text's walks alone
set_option linter.unusedVariables false
set_option linter.unusedSimpArgs false

/-! ### inclineref21_command: function 26 -/
mutual
def inclineref21_command.l0 : Nat → Int → List ByteArray → List ByteArray → Int → Option (ByteArray × List Int × Bool × Int)
  | 0, _, _, _, _ => none
  | k + 1, x1, x7, x8, x9 => if x9 < (x7.length : Int) then (if 0 ≤ x9 then (if (rdOf ByteArray.empty x7 x9).toList = ([] : List UInt8) then (inclineref21_command.l0 k x1 x7 x8 (wrap64 (x9 + 1))) else (if x8.length < 8796093022208 then (inclineref21_command.l0 k x1 x7 (x8 ++ [rdOf ByteArray.empty x7 x9]) (wrap64 (x9 + 1))) else (none))) else (none)) else (if (x8.length : Int) = 0 then (inclineref21_command.j1 k x1 x8 true) else (if 0 < (x8.length : Int) then (if 0 < ((rdOf ByteArray.empty x8 0).size : Int) then (inclineref21_command.j1 k x1 x8 ((bt (rdOf ByteArray.empty x8 0) 0) == 35)) else (none)) else (none)))
def inclineref21_command.j1 : Nat → Int → List ByteArray → Bool → Option (ByteArray × List Int × Bool × Int)
  | 0, _, _, _ => none
  | k + 1, x1, x8, x44 => if x44 = true then (some ((⟨#[]⟩ : ByteArray), ([] : List Int), false, 0)) else (if x1 ≥ 4096 then (some ((⟨#[]⟩ : ByteArray), ([] : List Int), true, 210)) else (if 0 < (x8.length : Int) then ((inclineref21_Takes.f k (rdOf ByteArray.empty x8 0)).bind fun t273 => (if t273 < 0 then (some ((⟨#[]⟩ : ByteArray), ([] : List Int), true, 211)) else ((inclineref21_Takes.f k (rdOf ByteArray.empty x8 0)).bind fun t275 => (if t275 = (wrap64 ((x8.length : Int) - 1)) then (inclineref21_command.l1 k x8 1 (rdOf ByteArray.empty x8 0) ([] : List Int)) else (some ((⟨#[]⟩ : ByteArray), ([] : List Int), true, 213)))))) else (none)))
def inclineref21_command.l1 : Nat → List ByteArray → Int → ByteArray → List Int → Option (ByteArray × List Int × Bool × Int)
  | 0, _, _, _, _ => none
  | k + 1, x8, x11, x278000, x278001 => if x11 < (x8.length : Int) then (if 0 ≤ x11 then ((inclineref21_number.f k (rdOf ByteArray.empty x8 x11)).bind fun bt279 => (if bt279.2 = true then (if x278001.length < 17592186044416 then (inclineref21_command.l1 k x8 (wrap64 (x11 + 1)) x278000 (x278001 ++ [bt279.1])) else (none)) else (some ((⟨#[]⟩ : ByteArray), ([] : List Int), true, 212)))) else (none)) else (some (x278000, x278001, true, 0))
end
def inclineref21_command.f (k : Nat) (a0 : ByteArray) (a1 : Int) : Option (ByteArray × List Int × Bool × Int) := (inclineref21_split.f k a0 32).bind fun t260 => (inclineref21_command.l0 k a1 t260 (([] : List ByteArray)) 0)
theorem inclineref21_command.mono_l : ∀ k, (∀ y0 y1 y2 y3, LeO (inclineref21_command.l0 k y0 y1 y2 y3) (inclineref21_command.l0 (k + 1) y0 y1 y2 y3)) ∧ (∀ y0 y1 y2, LeO (inclineref21_command.j1 k y0 y1 y2) (inclineref21_command.j1 (k + 1) y0 y1 y2)) ∧ (∀ y0 y1 y2 y3, LeO (inclineref21_command.l1 k y0 y1 y2 y3) (inclineref21_command.l1 (k + 1) y0 y1 y2 y3))
  | 0 => ⟨fun _ _ _ _ r h => by simp [inclineref21_command.l0] at h, fun _ _ _ r h => by simp [inclineref21_command.j1] at h, fun _ _ _ _ r h => by simp [inclineref21_command.l1] at h⟩
  | k + 1 => by
    obtain ⟨ih0, ih1, ih2⟩ := inclineref21_command.mono_l k
    refine ⟨?_, ?_, ?_⟩
    · intro y0 y1 y2 y3
      unfold inclineref21_command.l0
      repeat' first
      | (with_reducible exact ih0 _ _ _ _)
      | (with_reducible exact ih1 _ _ _)
      | (with_reducible exact ih2 _ _ _ _)
      | (with_reducible exact inclineref21_Takes.mono _ _)
      | (with_reducible exact inclineref21_number.mono _ _)
      | (with_reducible exact inclineref21_split.mono _ _ _)
      | (with_reducible exact LeO.refl _)
      | (with_reducible exact LeO.none _)
      | (with_reducible refine LeO.ite ?_ ?_)
      | (with_reducible refine LeO.bind ?_ (fun _ => ?_))
      | exact ih0 _ _ _ _
      | exact ih1 _ _ _
      | exact ih2 _ _ _ _
      | exact inclineref21_Takes.mono _ _
      | exact inclineref21_number.mono _ _
      | exact inclineref21_split.mono _ _ _
      | exact LeO.none _
      | refine LeO.ite ?_ ?_
      | refine LeO.bind ?_ (fun _ => ?_)
    · intro y0 y1 y2
      unfold inclineref21_command.j1
      repeat' first
      | (with_reducible exact ih0 _ _ _ _)
      | (with_reducible exact ih1 _ _ _)
      | (with_reducible exact ih2 _ _ _ _)
      | (with_reducible exact inclineref21_Takes.mono _ _)
      | (with_reducible exact inclineref21_number.mono _ _)
      | (with_reducible exact inclineref21_split.mono _ _ _)
      | (with_reducible exact LeO.refl _)
      | (with_reducible exact LeO.none _)
      | (with_reducible refine LeO.ite ?_ ?_)
      | (with_reducible refine LeO.bind ?_ (fun _ => ?_))
      | exact ih0 _ _ _ _
      | exact ih1 _ _ _
      | exact ih2 _ _ _ _
      | exact inclineref21_Takes.mono _ _
      | exact inclineref21_number.mono _ _
      | exact inclineref21_split.mono _ _ _
      | exact LeO.none _
      | refine LeO.ite ?_ ?_
      | refine LeO.bind ?_ (fun _ => ?_)
    · intro y0 y1 y2 y3
      unfold inclineref21_command.l1
      repeat' first
      | (with_reducible exact ih0 _ _ _ _)
      | (with_reducible exact ih1 _ _ _)
      | (with_reducible exact ih2 _ _ _ _)
      | (with_reducible exact inclineref21_Takes.mono _ _)
      | (with_reducible exact inclineref21_number.mono _ _)
      | (with_reducible exact inclineref21_split.mono _ _ _)
      | (with_reducible exact LeO.refl _)
      | (with_reducible exact LeO.none _)
      | (with_reducible refine LeO.ite ?_ ?_)
      | (with_reducible refine LeO.bind ?_ (fun _ => ?_))
      | exact ih0 _ _ _ _
      | exact ih1 _ _ _
      | exact ih2 _ _ _ _
      | exact inclineref21_Takes.mono _ _
      | exact inclineref21_number.mono _ _
      | exact inclineref21_split.mono _ _ _
      | exact LeO.none _
      | refine LeO.ite ?_ ?_
      | refine LeO.bind ?_ (fun _ => ?_)
theorem inclineref21_command.mono : ∀ a0 a1 k, LeO (inclineref21_command.f k a0 a1) (inclineref21_command.f (k + 1) a0 a1) := by
  intro a0 a1 k
  obtain ⟨ih0, ih1, ih2⟩ := inclineref21_command.mono_l k
  unfold inclineref21_command.f
  repeat' first
      | (with_reducible exact ih0 _ _ _ _)
      | (with_reducible exact ih1 _ _ _)
      | (with_reducible exact ih2 _ _ _ _)
      | (with_reducible exact inclineref21_Takes.mono _ _)
      | (with_reducible exact inclineref21_number.mono _ _)
      | (with_reducible exact inclineref21_split.mono _ _ _)
      | (with_reducible exact LeO.refl _)
      | (with_reducible exact LeO.none _)
      | (with_reducible refine LeO.ite ?_ ?_)
      | (with_reducible refine LeO.bind ?_ (fun _ => ?_))
      | exact ih0 _ _ _ _
      | exact ih1 _ _ _
      | exact ih2 _ _ _ _
      | exact inclineref21_Takes.mono _ _
      | exact inclineref21_number.mono _ _
      | exact inclineref21_split.mono _ _ _
      | exact LeO.none _
      | refine LeO.ite ?_ ?_
      | refine LeO.bind ?_ (fun _ => ?_)
set_option maxHeartbeats 8000000 in
set_option maxRecDepth 100000 in
theorem inclineref21_command.calls (k : Nat) (a0 : ByteArray) (a1 : Int) (r1 : ByteArray) (r2 : List Int) (r3 : Bool) (r4 : Int) (w : World) (h : inclineref21_command.f k a0 a1 = some (r1, r2, r3, r4)) :
    Calls Tryd.prog 26 #[.string a0, .int .i64 a1] w fun e w' => ∃ v1_ : Value, e = .returned (.tuple #[.agg #[.string r1, v1_], .bool r3, .int .i64 r4]) ∧ Kd.R (Kd.int .u64) 31 w' w.heap.size (fun _ => True) v1_ r2 ∧ Below w.heap.size w w' := by
  have hu30 := Tryd.underlying30
  have HB := Aside0.mk (Below.refl w.heap.size w)
  have H : ((inclineref21_split.f k a0 32).bind fun t260 => (inclineref21_command.l0 k a1 t260 (([] : List ByteArray)) 0)) = some (r1, r2, r3, r4) := h
  clear h
  replace H := Option.bind_eq_some_iff.mp H
  obtain ⟨t260, A30, H⟩ := H
  replace H : (inclineref21_command.l0 k a1 t260 (([] : List ByteArray)) 0) = some (r1, r2, r3, r4) := H
  have A3 := Aside0.mk A30
  clear A30
  obtain ⟨y263, hy263⟩ : ∃ y_ : List ByteArray, y_ = (([] : List ByteArray)) := ⟨_, rfl⟩
  replace H : (inclineref21_command.l0 k a1 t260 y263 0) = some (r1, r2, r3, r4) := by first | (rw [hy263]; with_reducible exact H) | (have H2_ := (Option.bind_some _ _).symm.trans H; rw [hy263]; with_reducible exact H2_) | (have H2_ := (Option.bind_some _ _).symm.trans H; with_reducible exact H2_) | with_reducible exact H | (rw [hy263]; exact H) | exact H
  have Ny263 := Aside0.mk hy263
  clear hy263
  have H' := Aside0.mk H
  clear H
  go_enter Tryd.func26, Tryd.ntmps26
  go_wp2_with (first | ((with_reducible refine gate_dst (N := 4) rfl ?_); refine box_event ?hg (N := 4) ?hd (cs := #[.string (⟨#[]⟩ : ByteArray), .slice none 0 0]) (t := 30) ?hr ?_; (case hd => rfl); (case hg => rfl); (case hr => first | (go_simp; done) | (go_simp; rfl)); intro gb259 hg w4 hbox hb; have n0_ := Aside0.mk (below_step (by repeat (first | (with_reducible first | exact HB.out | apply below_alloc | apply pw_below_drewN | apply below_drew1) | exact HB.out)) hb); have n1_ := Aside0.mk (hbox); have n2_ := Aside0.mk ((by rw [hg]; exact (below_size (by repeat (first | (with_reducible first | exact HB.out | apply below_alloc | apply pw_below_drewN | apply below_drew1) | exact HB.out))) : w.heap.size ≤ gb259)); have n3_ := Aside0.mk ((by rw [hg]; exact (below_size (by repeat (first | (with_reducible first | exact HB.out | apply below_alloc | apply pw_below_drewN | apply below_drew1) | exact HB.out))) : w.heap.size ≤ gb259)); clear HB; have HB := n0_; have BK259 := n1_; have GW259 := n2_; have GE259 := n3_; clear n0_ n1_ n2_ n3_; clear hb hbox hg) | ((with_reducible refine gate_callee (f := 25) rfl ?_); refine goesL_ (some 15) rfl rfl Tryd.func25 (by kernel_rfl) rfl #[.string a0, .int .u8 32] rfl (by (try simp only [List.map_toArray, List.map_cons, List.map_nil]); first | done | rfl | (simp only [List.length_drop, List.length_take]; rfl)) ?_; (with_reducible refine (inclineref21_split.calls k a0 32 t260 _ A3.out).mono ?_); rintro e w5 ⟨v261, rfl, ho0, hb⟩; refine ⟨_, rfl, ?_⟩; have n0_ := Aside0.mk (Kd.R_lower ho0 (below_size (by repeat (first | (with_reducible first | exact HB.out | apply below_alloc | apply pw_below_drewN | apply below_drew1 | refine below_set ?_ GE259.out) | exact HB.out)))); have n1_ := Aside0.mk (blk_below (g := gb259) (o := .cells #[.string (⟨#[]⟩ : ByteArray), .slice none 0 0] 30 (0, 0)) (by (with_reducible repeat (first | refine blk_drewN ?_ _ | refine blk_drew ?_ | refine blk_alloc ?_ _)); exact BK259.out) hb); have n2_ := Aside0.mk (below_step (by repeat (first | (with_reducible first | exact HB.out | apply below_alloc | apply pw_below_drewN | apply below_drew1 | refine below_set ?_ GE259.out) | exact HB.out)) hb); clear BK259; clear HB; have HO262 := n0_; have BK259 := n1_; have HB := n2_; clear n0_ n1_ n2_; (try clear hb); (try clear hb2); (try clear hk); (try clear hi); (try clear ho0)) | ((with_reducible refine gate_dst (N := 16) rfl ?_); refine Kd.R_lit Kd.string _ 9 ?hg (N := 16) ?hd (xs := ([] : List ByteArray)) (inner := []) (ok := fun _ => True) (okp := fun _ => True) ?hr ?hp (fun _ hk => hk) trivial (Below.refl _ _) (Nat.le_refl _) (by simp) ?_; (case hd => rfl); (case hg => rfl); (case hr => first | (go_simp; done) | (go_simp; rfl)); (case hp => exact (Reps.none _ _)); intro v264 w6 ho7 hb hg_ hnew_; clear hg_ hnew_; (first | rw [← Ny263.out] at ho7 | (simp only [Int.reduceToNat] at ho7; rw [← Ny263.out] at ho7)); have n0_ := Aside0.mk (Kd.R_elder' (by (with_reducible repeat (first | apply Kd.R_alloc | apply Kd.R_drewN | apply Kd.R_drew)); exact HO262.out) (Kd.R_base ho7) hb); have n1_ := Aside0.mk (Kd.R_lower (Kd.R_new' ho7 (Kd.R_lt (by (with_reducible repeat (first | apply Kd.R_alloc | apply Kd.R_drewN | apply Kd.R_drew)); exact HO262.out))) (below_size (by repeat (first | (with_reducible first | exact HB.out | apply below_alloc | apply pw_below_drewN | apply below_drew1 | refine below_set ?_ GE259.out) | exact HB.out)))); have n2_ := Aside0.mk (blk_below (g := gb259) (o := .cells #[.string (⟨#[]⟩ : ByteArray), .slice none 0 0] 30 (0, 0)) (by (with_reducible repeat (first | refine blk_drewN ?_ _ | refine blk_drew ?_ | refine blk_alloc ?_ _)); exact BK259.out) hb); have n3_ := Aside0.mk (below_step (by repeat (first | (with_reducible first | exact HB.out | apply below_alloc | apply pw_below_drewN | apply below_drew1 | refine below_set ?_ GE259.out) | exact HB.out)) hb); clear HO262; clear BK259; clear HB; have HO262 := n0_; have HO265 := n1_; have BK259 := n2_; have HB := n3_; clear n0_ n1_ n2_ n3_; clear hb ho7))
  go_loopg [8, 9] k (fun kq v8 v9 w' => ∃ (x8_1 : List ByteArray) (x9_1 : Int), v9 = .int .i64 x9_1 ∧ Aside0 (inclineref21_command.l0 kq a1 t260 x8_1 x9_1 = some (r1, r2, r3, r4)) ∧ Aside0 (kq ≤ k) ∧ Aside0 (Kd.R Kd.string 9 w' w.heap.size (fun k_ => some k_ ≠ (v8 : Value).ownBlock) v261 t260) ∧ Aside0 (Kd.R Kd.string 9 w' w.heap.size (fun k_ => some k_ ≠ (v261 : Value).ownBlock) v8 x8_1) ∧ Aside0 (w'.heap[gb259]? = some (.cells #[.string (⟨#[]⟩ : ByteArray), (.slice none 0 0)] 30 (0, 0))) ∧ Aside0 (Below w.heap.size w w'))
  case atStart => exact ⟨(y263), (0), (by first | rfl | (simp; done) | (simp [*]; done)), H', ⟨Nat.le_refl _⟩, ⟨by (with_reducible repeat (first | apply Kd.R_alloc | apply Kd.R_drewN | apply Kd.R_drew)); exact Kd.R_mono HO262.out (fun _ hk => hk.2)⟩, ⟨by (with_reducible repeat (first | apply Kd.R_alloc | apply Kd.R_drewN | apply Kd.R_drew)); exact Kd.R_mono HO265.out (fun _ hk => hk.2)⟩, ⟨by (with_reducible repeat (first | refine blk_drewN ?_ _ | refine blk_drew ?_ | refine blk_alloc ?_ _)); exact BK259.out⟩, ⟨by repeat (first | (with_reducible first | exact HB.out | apply below_alloc | apply pw_below_drewN | apply below_drew1 | refine below_set ?_ GE259.out) | exact HB.out)⟩⟩
  case round =>
    clear H'
    try clear c2
    try clear p2
    obtain ⟨x8_1, x9_1, rfl, HA, HK1, HO_7, HO_8, BK259, HB⟩ := hrel
    cases gk with
    | zero => exact absurd HA.out (by simp [inclineref21_command.l0])
    | succ k1 =>
      have H := HA.out
      clear HA
      simp only [inclineref21_command.l0] at H
      by_cases c8 : x9_1 < (t260.length : Int)
      · rw [if_pos c8] at H
        have c8b0 : decide (x9_1 < (t260.length : Int)) = true := decide_eq_true c8
        clear c8
        by_cases c9 : 0 ≤ x9_1
        · rw [if_pos c9] at H
          have c9b0 : decide (0 ≤ x9_1) = true := decide_eq_true c9
          clear c9
          by_cases c10 : (rdOf ByteArray.empty t260 x9_1).toList = ([] : List UInt8)
          · rw [if_pos c10] at H
            have c10b0 : ((rdOf ByteArray.empty t260 x9_1).toList == ([] : List UInt8)) = true := beq_iff_eq.mpr c10
            have c10b1 : ((rdOf ByteArray.empty t260 x9_1).toList != ([] : List UInt8)) = false := bne_eq_false_iff_eq.mpr c10
            clear c10
            have H' := Aside0.mk H
            clear H
            obtain ⟨Ao11, co11, eo11⟩ := Kd.R_slice HO_7.out
            subst eo11
            have p266 : 0 ≤ (x9_1 : Int) := of_decide_eq_true (by first | (with_reducible assumption) | assumption)
            have q266 : x9_1 < (t260.length : Int) := of_decide_eq_true (by first | (with_reducible assumption) | assumption)
            obtain ⟨ad266, e266, hx266_0⟩ := Kd.at_string (Kd.R_reads' HO_7.out).2.2 x9_1 p266 q266
            cases e266
            replace p266 := eq_true p266
            replace q266 := eq_true q266
            go_wp2
            go_roundg k1
            case measure => have := HK1.out; omega
            case rel => exact ⟨(x8_1), (wrap64 (x9_1 + 1)), (by first | rfl | (simp; done) | (simp [*]; done)), H', ⟨by have := HK1.out; omega⟩, ⟨by (with_reducible repeat (first | apply Kd.R_alloc | apply Kd.R_drewN | apply Kd.R_drew)); exact HO_7.out⟩, ⟨by (with_reducible repeat (first | apply Kd.R_alloc | apply Kd.R_drewN | apply Kd.R_drew)); exact HO_8.out⟩, ⟨by (with_reducible repeat (first | refine blk_drewN ?_ _ | refine blk_drew ?_ | refine blk_alloc ?_ _)); exact BK259.out⟩, ⟨by repeat (first | (with_reducible first | exact HB.out | apply below_alloc | apply pw_below_drewN | apply below_drew1 | refine below_set ?_ GE259.out) | exact HB.out)⟩⟩
          · rw [if_neg c10] at H
            have c10b0 : ((rdOf ByteArray.empty t260 x9_1).toList == ([] : List UInt8)) = false := beq_eq_false_iff_ne.mpr c10
            have c10b1 : ((rdOf ByteArray.empty t260 x9_1).toList != ([] : List UInt8)) = true := bne_iff_ne.mpr c10
            by_cases c12 : x8_1.length < 8796093022208
            · rw [if_pos c12] at H
              have LMc12 := Aside0.mk c12
              clear c12
              obtain ⟨y268, hy268⟩ : ∃ y_ : List ByteArray, y_ = (x8_1 ++ [rdOf ByteArray.empty t260 x9_1]) := ⟨_, rfl⟩
              replace H : (inclineref21_command.l0 k1 a1 t260 y268 (wrap64 (x9_1 + 1))) = some (r1, r2, r3, r4) := by first | (rw [hy268]; with_reducible exact H) | (have H2_ := (Option.bind_some _ _).symm.trans H; rw [hy268]; with_reducible exact H2_) | (have H2_ := (Option.bind_some _ _).symm.trans H; with_reducible exact H2_) | with_reducible exact H | (rw [hy268]; exact H) | exact H
              have Ny268 := Aside0.mk hy268
              clear hy268
              have H' := Aside0.mk H
              clear H
              obtain ⟨Ao13, co13, eo13⟩ := Kd.R_slice HO_7.out
              subst eo13
              have p266 : 0 ≤ (x9_1 : Int) := of_decide_eq_true (by first | (with_reducible assumption) | assumption)
              have q266 : x9_1 < (t260.length : Int) := of_decide_eq_true (by first | (with_reducible assumption) | assumption)
              obtain ⟨ad266, e266, hx266_0⟩ := Kd.at_string (Kd.R_reads' HO_7.out).2.2 x9_1 p266 q266
              cases e266
              replace p266 := eq_true p266
              replace q266 := eq_true q266
              have p267 : 0 ≤ (x9_1 : Int) := of_decide_eq_true (by first | (with_reducible assumption) | assumption)
              have q267 : x9_1 < (t260.length : Int) := of_decide_eq_true (by first | (with_reducible assumption) | assumption)
              obtain ⟨ad267, e267, hx267_0⟩ := Kd.at_string (Kd.R_reads' HO_7.out).2.2 x9_1 p267 q267
              obtain rfl : ad266 = ad267 := (by injection e267)
              replace p267 := eq_true p267
              replace q267 := eq_true q267
              go_wp2_with (first | ((with_reducible refine gate_builtin (b := .append) (xs := #[.tmp 28, .tmp 33]) rfl ?_); at_builtin; refine Kd.R_append Kd.string (w0 := w) w.heap.size rfl (.tmp 28) (.tmp 33) 54 9 (.string ⟨#[]⟩) 16 rfl Tryd.underlying54 info9 rfl (by decide) (by omega) u8 x8_1 (rdOf ByteArray.empty t260 x9_1) [.string (rdOf ByteArray.empty t260 x9_1)] (fun k_ => some k_ ≠ (.slice (some ad266) t260.length co13 : Value).ownBlock) (fun _ => False) rfl rfl ?aP (fun _ hk => hk.elim) ?aF ?aO ?aB ?aS ?aL ?_; (case aP => exact rfl); (case aB => exact (by repeat (first | (with_reducible first | exact HB.out | apply below_alloc | apply pw_below_drewN | apply below_drew1 | refine below_set ?_ GE259.out) | exact HB.out))); (case aF => exact (fun k_ hk => Kd.fresh' (Kd.R_lt (by (with_reducible repeat (first | apply Kd.R_alloc | apply Kd.R_drewN | apply Kd.R_drew)); exact HO_7.out)) k_ hk)); (case aO => exact (by (with_reducible repeat (first | apply Kd.R_alloc | apply Kd.R_drewN | apply Kd.R_drew)); exact HO_8.out)); (case aS => exact (below_size (by repeat (first | (with_reducible first | exact HB.out | apply below_alloc | apply pw_below_drewN | apply below_drew1 | refine below_set ?_ GE259.out) | exact HB.out)))); (case aL => have := LMc12.out; omega); intro v269 w14 ho hb hg hat; rw [← Ny268.out] at ho; have n0_ := Aside0.mk (Kd.R_after (ok := (fun _ => True)) (by (with_reducible repeat (first | apply Kd.R_alloc | apply Kd.R_drewN | apply Kd.R_drew)); exact Kd.R_mono HO_7.out (fun _ hk => ⟨trivial, hk⟩)) hg hat); have n1_ := Aside0.mk (blk_grown (g := gb259) (o := .cells #[.string (⟨#[]⟩ : ByteArray), .slice none 0 0] 30 (0, 0)) (by (with_reducible repeat (first | refine blk_drewN ?_ _ | refine blk_drew ?_ | refine blk_alloc ?_ _)); exact BK259.out) hg (Kd.R_ne HO_8.out BK259.out (by decide))); have n2_ := Aside0.mk (hb); have n3_ := Aside0.mk (ho); clear HO_7; clear BK259; clear HB; clear HO_8; have HO_7 := n0_; have BK259 := n1_; have HB := n2_; have HO270 := n3_; clear n0_ n1_ n2_ n3_; clear ho hb hg hat))
              go_roundg k1
              case measure => have := HK1.out; omega
              case rel => exact ⟨(y268), (wrap64 (x9_1 + 1)), (by first | rfl | (simp; done) | (simp [*]; done)), H', ⟨by have := HK1.out; omega⟩, ⟨by (with_reducible repeat (first | apply Kd.R_alloc | apply Kd.R_drewN | apply Kd.R_drew)); exact Kd.R_mono HO_7.out (fun _ hk => hk.2)⟩, ⟨by (with_reducible repeat (first | apply Kd.R_alloc | apply Kd.R_drewN | apply Kd.R_drew)); exact HO270.out⟩, ⟨by (with_reducible repeat (first | refine blk_drewN ?_ _ | refine blk_drew ?_ | refine blk_alloc ?_ _)); exact BK259.out⟩, ⟨by repeat (first | (with_reducible first | exact HB.out | apply below_alloc | apply pw_below_drewN | apply below_drew1 | refine below_set ?_ GE259.out) | exact HB.out)⟩⟩
            · rw [if_neg c12] at H
              exact absurd H (by simp)
        · rw [if_neg c9] at H
          exact absurd H (by simp)
      · rw [if_neg c8] at H
        have c8b0 : decide (x9_1 < (t260.length : Int)) = false := decide_eq_false c8
        clear c8
        have HC15 := Aside0.mk H
        clear H
        obtain ⟨Ao16, co16, eo16⟩ := Kd.R_slice HO_7.out
        subst eo16
        go_upto_region 8 with (fail)
        go_cut [44] (fun v44 wc => ∃ (kq : Nat) (x44_14 : Bool), v44 = .bool x44_14 ∧ Aside0 (inclineref21_command.j1 kq a1 x8_1 x44_14 = some (r1, r2, r3, r4)) ∧ Aside0 (kq ≤ k1) ∧ Aside0 (Kd.R Kd.string 9 wc w.heap.size (fun _ => True) u8 x8_1) ∧ Aside0 (wc.heap[gb259]? = some (.cells #[.string (⟨#[]⟩ : ByteArray), (.slice none 0 0)] 30 (0, 0))) ∧ Aside0 (Below w.heap.size w wc))
        case first =>
          have H := HC15.out
          clear HC15
          by_cases c17 : (x8_1.length : Int) = 0
          · rw [if_pos c17] at H
            have c17b0 : ((x8_1.length : Int) == 0) = true := beq_iff_eq.mpr c17
            have c17b1 : ((x8_1.length : Int) != 0) = false := bne_eq_false_iff_eq.mpr c17
            clear c17
            (first | rw [c17b0] | (simp only [i64_w, i32_w]; rw [c17b0]) | skip)
            have H' := Aside0.mk H
            clear H
            obtain ⟨Ao18, co18, eo18⟩ := Kd.R_slice HO_8.out
            subst eo18
            go_wp2
            go_meet
            case rel => exact ⟨_, (true), (by first | rfl | (simp; done) | (simp [*]; done)), H', ⟨by have := HK1.out; first | omega | exact Nat.le_refl _⟩, ⟨by (with_reducible repeat (first | apply Kd.R_alloc | apply Kd.R_drewN | apply Kd.R_drew)); exact Kd.R_mono HO_8.out (fun _ hk => trivial)⟩, ⟨by (with_reducible repeat (first | refine blk_drewN ?_ _ | refine blk_drew ?_ | refine blk_alloc ?_ _)); exact BK259.out⟩, ⟨by repeat (first | (with_reducible first | exact HB.out | apply below_alloc | apply pw_below_drewN | apply below_drew1 | refine below_set ?_ GE259.out) | exact HB.out)⟩⟩
          · rw [if_neg c17] at H
            have c17b0 : ((x8_1.length : Int) == 0) = false := beq_eq_false_iff_ne.mpr c17
            have c17b1 : ((x8_1.length : Int) != 0) = true := bne_iff_ne.mpr c17
            have c17b2 : ¬ (x8_1 = []) := fun h_ => c17 (by rw [h_]; rfl)
            (first | rw [c17b0] | (simp only [i64_w, i32_w]; rw [c17b0]) | skip)
            by_cases c19 : 0 < (x8_1.length : Int)
            · rw [if_pos c19] at H
              have c19b0 : decide (0 < (x8_1.length : Int)) = true := decide_eq_true c19
              have c19b1 : decide (0 < x8_1.length) = true := decide_eq_true (by omega)
              clear c19
              by_cases c20 : 0 < ((rdOf ByteArray.empty x8_1 0).size : Int)
              · rw [if_pos c20] at H
                have c20b0 : decide (0 < ((rdOf ByteArray.empty x8_1 0).size : Int)) = true := decide_eq_true c20
                have c20b1 : decide (0 < (rdOf ByteArray.empty x8_1 0).size) = true := decide_eq_true (by omega)
                clear c20
                have H' := Aside0.mk H
                clear H
                obtain ⟨Ao22, co22, eo22⟩ := Kd.R_slice HO_8.out
                subst eo22
                have p271 : 0 ≤ (0 : Int) := (by omega)
                have q271 : 0 < (x8_1.length : Int) := of_decide_eq_true (by first | (with_reducible assumption) | assumption)
                obtain ⟨ad271, e271, hx271_0⟩ := Kd.at_string (Kd.R_reads' HO_8.out).2.2 0 p271 q271
                cases e271
                have qi271 : (0 < x8_1.length) = True := eq_true (by omega)
                (try rw [show ((0 : Int)).toNat = 0 from rfl] at hx271_0)
                (try rw [Addr.add_zero'] at hx271_0)
                replace p271 := eq_true p271
                replace q271 := eq_true q271
                have p21 : 0 ≤ (0 : Int) := (by omega)
                have q21 : 0 < (rdOf ByteArray.empty x8_1 0).size := (by have : (0 : Int) < ((rdOf ByteArray.empty x8_1 0).size : Int) := of_decide_eq_true (by first | (with_reducible assumption) | assumption); omega)
                have hx21 : ∀ h : 0 < (rdOf ByteArray.empty x8_1 0).size, (((rdOf ByteArray.empty x8_1 0)[0]'h).toNat : Int) = bt (rdOf ByteArray.empty x8_1 0) 0 := bt_at (rdOf ByteArray.empty x8_1 0) 0
                clear p21
                have qi21 : (0 < ((rdOf ByteArray.empty x8_1 0).size : Int)) = True := eq_true (of_decide_eq_true (by first | (with_reducible assumption) | assumption))
                replace q21 := eq_true q21
                go_wp2
                go_meet
                case rel => exact ⟨_, (((bt (rdOf ByteArray.empty x8_1 0) 0) == 35)), (by first | rfl | (simp; done) | (simp [*]; done)), H', ⟨by have := HK1.out; first | omega | exact Nat.le_refl _⟩, ⟨by (with_reducible repeat (first | apply Kd.R_alloc | apply Kd.R_drewN | apply Kd.R_drew)); exact Kd.R_mono HO_8.out (fun _ hk => trivial)⟩, ⟨by (with_reducible repeat (first | refine blk_drewN ?_ _ | refine blk_drew ?_ | refine blk_alloc ?_ _)); exact BK259.out⟩, ⟨by repeat (first | (with_reducible first | exact HB.out | apply below_alloc | apply pw_below_drewN | apply below_drew1 | refine below_set ?_ GE259.out) | exact HB.out)⟩⟩
              · rw [if_neg c20] at H
                exact absurd H (by simp)
            · rw [if_neg c19] at H
              exact absurd H (by simp)
        case rest =>
          clear HC15
          try clear c1
          try clear c2
          try clear p2
          try clear q2
          try clear hx2
          try clear qi2
          try clear p6
          try clear c8
          try clear c8b0
          try clear c9
          try clear c9b0
          try clear c10
          try clear c10b0
          try clear c10b1
          try clear c12
          try clear c17
          try clear c17b0
          try clear c17b1
          try clear c17b2
          try clear c19
          try clear c19b0
          try clear c19b1
          try clear c20
          try clear c20b0
          try clear c20b1
          try clear p21
          try clear q21
          try clear hx21
          try clear qi21
          try clear hx266_0
          try clear hx267_0
          try clear hx271_0
          try clear p2
          try clear p21
          try clear p266
          try clear p267
          try clear p271
          try clear q21
          try clear q266
          try clear q267
          try clear q271
          obtain ⟨kq, x44_14, rfl, HA, HJ14, HO_8, BK259, HB⟩ := hcut
          cases kq with
          | zero => exact absurd HA.out (by simp [inclineref21_command.j1])
          | succ kj14 =>
            have H := HA.out
            clear HA
            simp only [inclineref21_command.j1] at H
            by_cases c23 : x44_14 = true
            · subst c23
              have H1 : (some ((⟨#[]⟩ : ByteArray), ([] : List Int), false, 0)) = some (r1, r2, r3, r4) := by rw [if_pos rfl] at H; exact H
              clear H
              have H := H1
              clear H1
              simp only [Option.some.injEq, Prod.mk.injEq] at H
              obtain ⟨rfl, rfl, rfl, rfl⟩ := H
              have hcz24_0 : wc.cell? ⟨gb259, 0, none⟩ = some (.string (⟨#[]⟩ : ByteArray)) := (blk_cell BK259.out 0).trans rfl
              have hcz24_1 : wc.cell? ⟨gb259, 1, none⟩ = some (.slice none 0 0) := (blk_cell BK259.out 1).trans rfl
              have hfz24_0 := blk_frozen BK259.out 0
              have hfz24_1 := blk_frozen BK259.out 1
              go_wp2
              refine bodyPost_ret (results_ctt rfl _ _ gb259 30 #[.string (⟨#[]⟩ : ByteArray), .slice none 0 0] (0, 0) _ rfl (by (with_reducible repeat (first | refine blk_drewN ?_ _ | refine blk_drew ?_ | refine blk_alloc ?_ _)); refine blk_put (cs := #[.string (⟨#[]⟩ : ByteArray), .slice none 0 0]) ?_ 1 _ rfl; (with_reducible repeat (first | refine blk_drewN ?_ _ | refine blk_drew ?_ | refine blk_alloc ?_ _)); refine blk_put (cs := #[.string (⟨#[]⟩ : ByteArray), .slice none 0 0]) ?_ 0 _ rfl; (with_reducible repeat (first | refine blk_drewN ?_ _ | refine blk_drew ?_ | refine blk_alloc ?_ _)); exact BK259.out) Tryd.underlying30 rfl (by kernel_rfl)) rfl ?_
              exact ⟨_, by first | rfl | (simp [errW_none, errW_some] <;> rfl) | (simp [*, errW_none, errW_some] <;> rfl), by first | exact Kd.R_nil _ _ _ _ _ | exact Kd.N_nil _ _ _ _ _ | exact Kd.V_nil _ _ _ _ _ | exact Kd.Q_nil _ _ _ _ _ | exact Kd.S_nil _ _ _ _ _, by repeat (first | (with_reducible first | exact HB.out | apply below_alloc | apply pw_below_drewN | apply below_drew1 | refine below_set ?_ GE259.out) | exact HB.out)⟩
            · replace c23 := Bool.eq_false_iff.mpr c23
              subst c23
              have H1 : (if a1 ≥ 4096 then (some ((⟨#[]⟩ : ByteArray), ([] : List Int), true, 210)) else (if 0 < (x8_1.length : Int) then ((inclineref21_Takes.f kj14 (rdOf ByteArray.empty x8_1 0)).bind fun t273 => (if t273 < 0 then (some ((⟨#[]⟩ : ByteArray), ([] : List Int), true, 211)) else ((inclineref21_Takes.f kj14 (rdOf ByteArray.empty x8_1 0)).bind fun t275 => (if t275 = (wrap64 ((x8_1.length : Int) - 1)) then (inclineref21_command.l1 kj14 x8_1 1 (rdOf ByteArray.empty x8_1 0) ([] : List Int)) else (some ((⟨#[]⟩ : ByteArray), ([] : List Int), true, 213)))))) else (none))) = some (r1, r2, r3, r4) := by rw [if_neg (show ¬ (false = true) by decide)] at H; exact H
              clear H
              have H := H1
              clear H1
              by_cases c25 : a1 ≥ 4096
              · rw [if_pos c25] at H
                have c25b0 : decide (4096 ≤ a1) = true := decide_eq_true c25
                clear c25
                simp only [Option.some.injEq, Prod.mk.injEq] at H
                obtain ⟨rfl, rfl, rfl, rfl⟩ := H
                have hcz26_0 : wc.cell? ⟨gb259, 0, none⟩ = some (.string (⟨#[]⟩ : ByteArray)) := (blk_cell BK259.out 0).trans rfl
                have hcz26_1 : wc.cell? ⟨gb259, 1, none⟩ = some (.slice none 0 0) := (blk_cell BK259.out 1).trans rfl
                have hfz26_0 := blk_frozen BK259.out 0
                have hfz26_1 := blk_frozen BK259.out 1
                go_wp2
                refine bodyPost_ret (results_ctt rfl _ _ gb259 30 #[.string (⟨#[]⟩ : ByteArray), .slice none 0 0] (0, 0) _ rfl (by (with_reducible repeat (first | refine blk_drewN ?_ _ | refine blk_drew ?_ | refine blk_alloc ?_ _)); refine blk_put (cs := #[.string (⟨#[]⟩ : ByteArray), .slice none 0 0]) ?_ 1 _ rfl; (with_reducible repeat (first | refine blk_drewN ?_ _ | refine blk_drew ?_ | refine blk_alloc ?_ _)); refine blk_put (cs := #[.string (⟨#[]⟩ : ByteArray), .slice none 0 0]) ?_ 0 _ rfl; (with_reducible repeat (first | refine blk_drewN ?_ _ | refine blk_drew ?_ | refine blk_alloc ?_ _)); exact BK259.out) Tryd.underlying30 rfl (by kernel_rfl)) rfl ?_
                exact ⟨_, by first | rfl | (simp [errW_none, errW_some] <;> rfl) | (simp [*, errW_none, errW_some] <;> rfl), by first | exact Kd.R_nil _ _ _ _ _ | exact Kd.N_nil _ _ _ _ _ | exact Kd.V_nil _ _ _ _ _ | exact Kd.Q_nil _ _ _ _ _ | exact Kd.S_nil _ _ _ _ _, by repeat (first | (with_reducible first | exact HB.out | apply below_alloc | apply pw_below_drewN | apply below_drew1 | refine below_set ?_ GE259.out) | exact HB.out)⟩
              · rw [if_neg c25] at H
                have c25b0 : decide (4096 ≤ a1) = false := decide_eq_false c25
                clear c25
                by_cases c27 : 0 < (x8_1.length : Int)
                · rw [if_pos c27] at H
                  have c27b0 : decide (0 < (x8_1.length : Int)) = true := decide_eq_true c27
                  have c27b1 : decide (0 < x8_1.length) = true := decide_eq_true (by omega)
                  clear c27
                  replace H := Option.bind_eq_some_iff.mp H
                  obtain ⟨t273, A280, H⟩ := H
                  replace H : (if t273 < 0 then (some ((⟨#[]⟩ : ByteArray), ([] : List Int), true, 211)) else ((inclineref21_Takes.f kj14 (rdOf ByteArray.empty x8_1 0)).bind fun t275 => (if t275 = (wrap64 ((x8_1.length : Int) - 1)) then (inclineref21_command.l1 kj14 x8_1 1 (rdOf ByteArray.empty x8_1 0) ([] : List Int)) else (some ((⟨#[]⟩ : ByteArray), ([] : List Int), true, 213))))) = some (r1, r2, r3, r4) := H
                  have A28 := Aside0.mk A280
                  clear A280
                  by_cases c29 : t273 < 0
                  · rw [if_pos c29] at H
                    have c29b0 : decide (t273 < 0) = true := decide_eq_true c29
                    clear c29
                    simp only [Option.some.injEq, Prod.mk.injEq] at H
                    obtain ⟨rfl, rfl, rfl, rfl⟩ := H
                    obtain ⟨Ao30, co30, eo30⟩ := Kd.R_slice HO_8.out
                    subst eo30
                    have p272 : 0 ≤ (0 : Int) := (by omega)
                    have q272 : 0 < (x8_1.length : Int) := of_decide_eq_true (by first | (with_reducible assumption) | assumption)
                    obtain ⟨ad272, e272, hx272_0⟩ := Kd.at_string (Kd.R_reads' HO_8.out).2.2 0 p272 q272
                    cases e272
                    have qi272 : (0 < x8_1.length) = True := eq_true (by omega)
                    (try rw [show ((0 : Int)).toNat = 0 from rfl] at hx272_0)
                    (try rw [Addr.add_zero'] at hx272_0)
                    replace p272 := eq_true p272
                    replace q272 := eq_true q272
                    go_wp2_with (first | ((with_reducible refine gate_callee (f := 29) rfl ?_); refine goesL_ (some 52) rfl rfl Tryd.func29 (by kernel_rfl) rfl #[.string (rdOf ByteArray.empty x8_1 0)] rfl (by (try simp only [List.map_toArray, List.map_cons, List.map_nil]); first | done | rfl | (simp only [List.length_drop, List.length_take]; rfl)) ?_; (with_reducible refine (inclineref21_Takes.calls kj14 (rdOf ByteArray.empty x8_1 0) t273 _ A28.out).mono ?_); rintro e w' ⟨rfl, ⟨nd, rfl⟩⟩; refine ⟨_, rfl, ?_⟩; (try (rw [drewN_self wc]; generalize hq_ : World.drewN wc _ = wc; have n0_ : Aside0 (Kd.R Kd.string 9 wc w.heap.size (fun _ => True) (.slice (some ad272) x8_1.length co30) x8_1) := ⟨by rw [← hq_]; exact (by (with_reducible repeat (first | apply Kd.R_alloc | apply Kd.R_drewN | apply Kd.R_drew)); exact HO_8.out)⟩; have n1_ : Aside0 (wc.heap[gb259]? = some (.cells #[.string (⟨#[]⟩ : ByteArray), .slice none 0 0] 30 (0, 0))) := ⟨by rw [← hq_]; exact (by (with_reducible repeat (first | refine blk_drewN ?_ _ | refine blk_drew ?_ | refine blk_alloc ?_ _)); exact BK259.out)⟩; have n2_ : Aside0 (Below w.heap.size w wc) := ⟨by rw [← hq_]; exact (by repeat (first | (with_reducible first | exact HB.out | apply below_alloc | apply pw_below_drewN | apply below_drew1 | refine below_set ?_ GE259.out) | exact HB.out))⟩; clear HO_8 BK259 HB hq_; have HO_8 := n0_; have BK259 := n1_; have HB := n2_; clear n0_ n1_ n2_)); have hcz31_0 : wc.cell? ⟨gb259, 0, none⟩ = some (.string (⟨#[]⟩ : ByteArray)) := (blk_cell BK259.out 0).trans rfl; have hcz31_1 : wc.cell? ⟨gb259, 1, none⟩ = some (.slice none 0 0) := (blk_cell BK259.out 1).trans rfl; have hfz31_0 := blk_frozen BK259.out 0; have hfz31_1 := blk_frozen BK259.out 1))
                    refine bodyPost_ret (results_ctt rfl _ _ gb259 30 #[.string (⟨#[]⟩ : ByteArray), .slice none 0 0] (0, 0) _ rfl (by (with_reducible repeat (first | refine blk_drewN ?_ _ | refine blk_drew ?_ | refine blk_alloc ?_ _)); refine blk_put (cs := #[.string (⟨#[]⟩ : ByteArray), .slice none 0 0]) ?_ 1 _ rfl; (with_reducible repeat (first | refine blk_drewN ?_ _ | refine blk_drew ?_ | refine blk_alloc ?_ _)); refine blk_put (cs := #[.string (⟨#[]⟩ : ByteArray), .slice none 0 0]) ?_ 0 _ rfl; (with_reducible repeat (first | refine blk_drewN ?_ _ | refine blk_drew ?_ | refine blk_alloc ?_ _)); exact BK259.out) Tryd.underlying30 rfl (by kernel_rfl)) rfl ?_
                    exact ⟨_, by first | rfl | (simp [errW_none, errW_some] <;> rfl) | (simp [*, errW_none, errW_some] <;> rfl), by first | exact Kd.R_nil _ _ _ _ _ | exact Kd.N_nil _ _ _ _ _ | exact Kd.V_nil _ _ _ _ _ | exact Kd.Q_nil _ _ _ _ _ | exact Kd.S_nil _ _ _ _ _, by repeat (first | (with_reducible first | exact HB.out | apply below_alloc | apply pw_below_drewN | apply below_drew1 | refine below_set ?_ GE259.out) | exact HB.out)⟩
                  · rw [if_neg c29] at H
                    have c29b0 : decide (t273 < 0) = false := decide_eq_false c29
                    clear c29
                    replace H := Option.bind_eq_some_iff.mp H
                    obtain ⟨t275, A320, H⟩ := H
                    replace H : (if t275 = (wrap64 ((x8_1.length : Int) - 1)) then (inclineref21_command.l1 kj14 x8_1 1 (rdOf ByteArray.empty x8_1 0) ([] : List Int)) else (some ((⟨#[]⟩ : ByteArray), ([] : List Int), true, 213))) = some (r1, r2, r3, r4) := H
                    have A32 := Aside0.mk A320
                    clear A320
                    obtain rfl : t273 = t275 := Option.some.inj (A28.out.symm.trans A32.out)
                    by_cases c33 : t273 = (wrap64 ((x8_1.length : Int) - 1))
                    · rw [if_pos c33] at H
                      have c33b0 : (t273 == (wrap64 ((x8_1.length : Int) - 1))) = true := beq_iff_eq.mpr c33
                      have c33b1 : (t273 != (wrap64 ((x8_1.length : Int) - 1))) = false := bne_eq_false_iff_eq.mpr c33
                      clear c33
                      have H' := Aside0.mk H
                      clear H
                      obtain ⟨Ao34, co34, eo34⟩ := Kd.R_slice HO_8.out
                      subst eo34
                      have p272 : 0 ≤ (0 : Int) := (by omega)
                      have q272 : 0 < (x8_1.length : Int) := of_decide_eq_true (by first | (with_reducible assumption) | assumption)
                      obtain ⟨ad272, e272, hx272_0⟩ := Kd.at_string (Kd.R_reads' HO_8.out).2.2 0 p272 q272
                      cases e272
                      have qi272 : (0 < x8_1.length) = True := eq_true (by omega)
                      (try rw [show ((0 : Int)).toNat = 0 from rfl] at hx272_0)
                      (try rw [Addr.add_zero'] at hx272_0)
                      replace p272 := eq_true p272
                      replace q272 := eq_true q272
                      go_wp2_with (first | ((with_reducible refine gate_callee (f := 29) rfl ?_); refine goesL_ (some 52) rfl rfl Tryd.func29 (by kernel_rfl) rfl #[.string (rdOf ByteArray.empty x8_1 0)] rfl (by (try simp only [List.map_toArray, List.map_cons, List.map_nil]); first | done | rfl | (simp only [List.length_drop, List.length_take]; rfl)) ?_; (with_reducible refine (inclineref21_Takes.calls kj14 (rdOf ByteArray.empty x8_1 0) t273 _ A28.out).mono ?_); rintro e w' ⟨rfl, ⟨nd, rfl⟩⟩; refine ⟨_, rfl, ?_⟩; (try (rw [drewN_self wc]; generalize hq_ : World.drewN wc _ = wc; have n0_ : Aside0 (Kd.R Kd.string 9 wc w.heap.size (fun _ => True) (.slice (some ad272) x8_1.length co34) x8_1) := ⟨by rw [← hq_]; exact (by (with_reducible repeat (first | apply Kd.R_alloc | apply Kd.R_drewN | apply Kd.R_drew)); exact HO_8.out)⟩; have n1_ : Aside0 (wc.heap[gb259]? = some (.cells #[.string (⟨#[]⟩ : ByteArray), .slice none 0 0] 30 (0, 0))) := ⟨by rw [← hq_]; exact (by (with_reducible repeat (first | refine blk_drewN ?_ _ | refine blk_drew ?_ | refine blk_alloc ?_ _)); exact BK259.out)⟩; have n2_ : Aside0 (Below w.heap.size w wc) := ⟨by rw [← hq_]; exact (by repeat (first | (with_reducible first | exact HB.out | apply below_alloc | apply pw_below_drewN | apply below_drew1 | refine below_set ?_ GE259.out) | exact HB.out))⟩; clear HO_8 BK259 HB hq_; have HO_8 := n0_; have BK259 := n1_; have HB := n2_; clear n0_ n1_ n2_)); have p274 : 0 ≤ (0 : Int) := (by omega); have q274 : 0 < (x8_1.length : Int) := of_decide_eq_true (by first | (with_reducible assumption) | assumption); obtain ⟨ad274, e274, hx274_0⟩ := Kd.at_string (Kd.R_reads' HO_8.out).2.2 0 p274 q274; obtain rfl : ad272 = ad274 := (by injection e274); have qi274 : (0 < x8_1.length) = True := eq_true (by omega); (try rw [show ((0 : Int)).toNat = 0 from rfl] at hx274_0); (try rw [Addr.add_zero'] at hx274_0); replace p274 := eq_true p274; replace q274 := eq_true q274) | ((with_reducible refine gate_callee (f := 29) rfl ?_); refine goesL_ (some 58) rfl rfl Tryd.func29 (by kernel_rfl) rfl #[.string (rdOf ByteArray.empty x8_1 0)] rfl (by (try simp only [List.map_toArray, List.map_cons, List.map_nil]); first | done | rfl | (simp only [List.length_drop, List.length_take]; rfl)) ?_; (with_reducible refine (inclineref21_Takes.calls kj14 (rdOf ByteArray.empty x8_1 0) t273 _ A32.out).mono ?_); rintro e w' ⟨rfl, ⟨nd, rfl⟩⟩; refine ⟨_, rfl, ?_⟩; (try (rw [drewN_self wc]; generalize hq_ : World.drewN wc _ = wc; have n0_ : Aside0 (Kd.R Kd.string 9 wc w.heap.size (fun _ => True) (.slice (some ad272) x8_1.length co34) x8_1) := ⟨by rw [← hq_]; exact (by (with_reducible repeat (first | apply Kd.R_alloc | apply Kd.R_drewN | apply Kd.R_drew)); exact HO_8.out)⟩; have n1_ : Aside0 (wc.heap[gb259]? = some (.cells #[.string (⟨#[]⟩ : ByteArray), .slice none 0 0] 30 (0, 0))) := ⟨by rw [← hq_]; exact (by (with_reducible repeat (first | refine blk_drewN ?_ _ | refine blk_drew ?_ | refine blk_alloc ?_ _)); exact BK259.out)⟩; have n2_ : Aside0 (Below w.heap.size w wc) := ⟨by rw [← hq_]; exact (by repeat (first | (with_reducible first | exact HB.out | apply below_alloc | apply pw_below_drewN | apply below_drew1 | refine below_set ?_ GE259.out) | exact HB.out))⟩; clear HO_8 BK259 HB hq_; have HO_8 := n0_; have BK259 := n1_; have HB := n2_; clear n0_ n1_ n2_)); have p276 : 0 ≤ (0 : Int) := (by omega); have q276 : 0 < (x8_1.length : Int) := of_decide_eq_true (by first | (with_reducible assumption) | assumption); obtain ⟨ad276, e276, hx276_0⟩ := Kd.at_string (Kd.R_reads' HO_8.out).2.2 0 p276 q276; obtain rfl : ad272 = ad276 := (by injection e276); have qi276 : (0 < x8_1.length) = True := eq_true (by omega); (try rw [show ((0 : Int)).toNat = 0 from rfl] at hx276_0); (try rw [Addr.add_zero'] at hx276_0); replace p276 := eq_true p276; replace q276 := eq_true q276) | ((with_reducible refine gate_dst (N := 10) rfl ?_); refine box_event ?hg (N := 10) ?hd (cs := #[.string (⟨#[]⟩ : ByteArray), .slice none 0 0]) (t := 30) ?hr ?_; (case hd => rfl); (case hg => rfl); (case hr => first | (go_simp; done) | (go_simp; rfl)); intro gb277 hg w35 hbox hb; have n0_ := Aside0.mk (Kd.R_below (by (with_reducible repeat (first | apply Kd.R_alloc | apply Kd.R_drewN | apply Kd.R_drew)); exact HO_8.out) hb); have n1_ := Aside0.mk (blk_below (g := gb259) (o := .cells #[.string (⟨#[]⟩ : ByteArray), .slice none 0 0] 30 (0, 0)) (by (with_reducible repeat (first | refine blk_drewN ?_ _ | refine blk_drew ?_ | refine blk_alloc ?_ _)); exact BK259.out) hb); have n2_ := Aside0.mk (below_step (by repeat (first | (with_reducible first | exact HB.out | apply below_alloc | apply pw_below_drewN | apply below_drew1 | refine below_set ?_ GE259.out) | exact HB.out)) hb); have n3_ := Aside0.mk (hbox); have n4_ := Aside0.mk ((by rw [hg]; exact (below_size (by repeat (first | (with_reducible first | exact HB.out | apply below_alloc | apply pw_below_drewN | apply below_drew1 | refine below_set ?_ GE259.out) | exact HB.out))) : w.heap.size ≤ gb277)); have n5_ := Aside0.mk ((by rw [hg]; exact (below_size (by repeat (first | (with_reducible first | exact HB.out | apply below_alloc | apply pw_below_drewN | apply below_drew1 | refine below_set ?_ GE259.out) | exact HB.out))) : w.heap.size ≤ gb277)); have n6_ := Aside0.mk ((by rw [hg]; exact Nat.ne_of_lt (blk_lt (g := gb259) (o := .cells #[.string (⟨#[]⟩ : ByteArray), .slice none 0 0] 30 (0, 0)) (by (with_reducible repeat (first | refine blk_drewN ?_ _ | refine blk_drew ?_ | refine blk_alloc ?_ _)); exact BK259.out)) : gb259 ≠ gb277)); have n7_ := Aside0.mk ((by rw [hg]; exact Nat.ne_of_gt (blk_lt (g := gb259) (o := .cells #[.string (⟨#[]⟩ : ByteArray), .slice none 0 0] 30 (0, 0)) (by (with_reducible repeat (first | refine blk_drewN ?_ _ | refine blk_drew ?_ | refine blk_alloc ?_ _)); exact BK259.out)) : gb277 ≠ gb259)); clear HO_8; clear BK259; clear HB; have HO_8 := n0_; have BK259 := n1_; have HB := n2_; have BK277 := n3_; have GW277 := n4_; have GE277 := n5_; have NB259_277 := n6_; have NB277_259 := n7_; clear n0_ n1_ n2_ n3_ n4_ n5_ n6_ n7_; clear hb hbox hg; have hnb36 := NB277_259.out; have hnc36 := NB259_277.out; have hcz37_0 : w35.cell? ⟨gb277, 0, none⟩ = some (.string (⟨#[]⟩ : ByteArray)) := (blk_cell BK277.out 0).trans rfl; have hcz37_1 : w35.cell? ⟨gb277, 1, none⟩ = some (.slice none 0 0) := (blk_cell BK277.out 1).trans rfl; have hfz37_0 := blk_frozen BK277.out 0; have hfz37_1 := blk_frozen BK277.out 1))
                      go_loopg [11] kj14 (fun kq v11 w' => ∃ (x11_3 : Int) (x260000_3 : ByteArray) (x278001_3 : List Int) (u278001 : Value), v11 = .int .i64 x11_3 ∧ Aside0 (inclineref21_command.l1 kq x8_1 x11_3 (rdOf ByteArray.empty x8_1 0) x278001_3 = some (r1, r2, r3, r4)) ∧ Aside0 (kq ≤ kj14) ∧ Aside0 (Kd.R Kd.string 9 w' w.heap.size (fun _ => True) (.slice (some ad272) x8_1.length co34) x8_1) ∧ Aside0 (Kd.R (Kd.int .u64) 31 w' w.heap.size (fun _ => True) u278001 x278001_3) ∧ Aside0 (w'.heap[gb259]? = some (.cells #[.string x260000_3, (.slice none 0 0)] 30 (0, 0))) ∧ Aside0 (w'.heap[gb277]? = some (.cells #[.string (rdOf ByteArray.empty x8_1 0), u278001] 30 (0, 0))) ∧ Aside0 (Below w.heap.size w w'))
                      case atStart => exact ⟨(1), ((⟨#[]⟩ : ByteArray)), (([] : List Int)), (.slice none 0 0), (by first | rfl | (simp; done) | (simp [*]; done)), H', ⟨Nat.le_refl _⟩, ⟨by (with_reducible repeat (first | apply Kd.R_alloc | apply Kd.R_drewN | apply Kd.R_drew)); exact Kd.R_mono (Kd.R_far (p := ⟨gb277, 1, none⟩) (Kd.R_far (p := ⟨gb277, 0, none⟩) (Kd.R_types HO_8.out BK277.out (by decide)) (fun _ hk => hk.2) (.string (rdOf ByteArray.empty x8_1 0))) (fun _ hk => hk.2) (.slice none 0 0)) (fun _ hk => trivial)⟩, ⟨by first | exact Kd.R_nil _ _ _ _ _ | exact Kd.N_nil _ _ _ _ _ | exact Kd.V_nil _ _ _ _ _ | exact Kd.Q_nil _ _ _ _ _ | exact Kd.S_nil _ _ _ _ _⟩, ⟨by (with_reducible repeat (first | refine blk_drewN ?_ _ | refine blk_drew ?_ | refine blk_alloc ?_ _)); refine blk_far ?_ NB259_277.out _; (with_reducible repeat (first | refine blk_drewN ?_ _ | refine blk_drew ?_ | refine blk_alloc ?_ _)); refine blk_far ?_ NB259_277.out _; (with_reducible repeat (first | refine blk_drewN ?_ _ | refine blk_drew ?_ | refine blk_alloc ?_ _)); exact BK259.out⟩, ⟨by (with_reducible repeat (first | refine blk_drewN ?_ _ | refine blk_drew ?_ | refine blk_alloc ?_ _)); refine blk_put (cs := #[.string (rdOf ByteArray.empty x8_1 0), .slice none 0 0]) ?_ 1 _ rfl; (with_reducible repeat (first | refine blk_drewN ?_ _ | refine blk_drew ?_ | refine blk_alloc ?_ _)); refine blk_put (cs := #[.string (⟨#[]⟩ : ByteArray), .slice none 0 0]) ?_ 0 _ rfl; (with_reducible repeat (first | refine blk_drewN ?_ _ | refine blk_drew ?_ | refine blk_alloc ?_ _)); exact BK277.out⟩, ⟨by repeat (first | (with_reducible first | exact HB.out | apply below_alloc | apply pw_below_drewN | apply below_drew1 | refine below_set ?_ GE259.out | refine below_set ?_ GE277.out) | exact HB.out)⟩⟩
                      case round =>
                        clear H'
                        try clear c1
                        try clear c2
                        try clear p2
                        try clear q2
                        try clear hx2
                        try clear qi2
                        try clear c3
                        try clear p6
                        try clear c8
                        try clear c8b0
                        try clear c9
                        try clear c9b0
                        try clear c10
                        try clear c10b0
                        try clear c10b1
                        try clear c12
                        try clear c17
                        try clear c17b0
                        try clear c17b1
                        try clear c17b2
                        try clear c19
                        try clear c19b0
                        try clear c19b1
                        try clear c20
                        try clear c20b0
                        try clear c20b1
                        try clear p21
                        try clear q21
                        try clear hx21
                        try clear qi21
                        try clear c23
                        try clear c25
                        try clear c25b0
                        try clear c26
                        try clear p26
                        try clear q26
                        try clear hx26
                        try clear c27
                        try clear c27b0
                        try clear c27b1
                        try clear p27
                        try clear q27
                        try clear hx27
                        try clear qi27
                        try clear c29
                        try clear c29b0
                        try clear c33
                        try clear c33b0
                        try clear c33b1
                        try clear c36
                        try clear hcz24_0
                        try clear hcz24_1
                        try clear hcz26_0
                        try clear hcz26_1
                        try clear hcz31_0
                        try clear hcz31_1
                        try clear hcz37_0
                        try clear hcz37_1
                        try clear hfz24_0
                        try clear hfz24_1
                        try clear hfz26_0
                        try clear hfz26_1
                        try clear hfz31_0
                        try clear hfz31_1
                        try clear hfz37_0
                        try clear hfz37_1
                        try clear hx266_0
                        try clear hx267_0
                        try clear hx271_0
                        try clear hx272_0
                        try clear hx274_0
                        try clear hx276_0
                        try clear p2
                        try clear p21
                        try clear p266
                        try clear p267
                        try clear p271
                        try clear p272
                        try clear p274
                        try clear p276
                        try clear p6
                        try clear q2
                        try clear q21
                        try clear q266
                        try clear q267
                        try clear q271
                        try clear q272
                        try clear q274
                        try clear q276
                        obtain ⟨x11_3, x260000_3, x278001_3, u278001, rfl, HA, HK3, HO_8, HO_278001, BK259, BK277, HB⟩ := hrel
                        cases gk with
                        | zero => exact absurd HA.out (by simp [inclineref21_command.l1])
                        | succ k3 =>
                          have H := HA.out
                          clear HA
                          simp only [inclineref21_command.l1] at H
                          by_cases c38 : x11_3 < (x8_1.length : Int)
                          · rw [if_pos c38] at H
                            have c38b0 : decide (x11_3 < (x8_1.length : Int)) = true := decide_eq_true c38
                            clear c38
                            by_cases c39 : 0 ≤ x11_3
                            · rw [if_pos c39] at H
                              have c39b0 : decide (0 ≤ x11_3) = true := decide_eq_true c39
                              clear c39
                              replace H := Option.bind_eq_some_iff.mp H
                              obtain ⟨⟨t279, t280⟩, A400, H⟩ := H
                              replace H : (if t280 = true then (if x278001_3.length < 17592186044416 then (inclineref21_command.l1 k3 x8_1 (wrap64 (x11_3 + 1)) (rdOf ByteArray.empty x8_1 0) (x278001_3 ++ [t279])) else (none)) else (some ((⟨#[]⟩ : ByteArray), ([] : List Int), true, 212))) = some (r1, r2, r3, r4) := H
                              have A40 := Aside0.mk A400
                              clear A400
                              by_cases c41 : t280 = true
                              · subst c41
                                have H1 : (if x278001_3.length < 17592186044416 then (inclineref21_command.l1 k3 x8_1 (wrap64 (x11_3 + 1)) (rdOf ByteArray.empty x8_1 0) (x278001_3 ++ [t279])) else (none)) = some (r1, r2, r3, r4) := by rw [if_pos rfl] at H; exact H
                                clear H
                                have H := H1
                                clear H1
                                by_cases c42 : x278001_3.length < 17592186044416
                                · rw [if_pos c42] at H
                                  have LMc42 := Aside0.mk c42
                                  clear c42
                                  obtain ⟨y281, hy281⟩ : ∃ y_ : List Int, y_ = (x278001_3 ++ [t279]) := ⟨_, rfl⟩
                                  replace H : (inclineref21_command.l1 k3 x8_1 (wrap64 (x11_3 + 1)) (rdOf ByteArray.empty x8_1 0) y281) = some (r1, r2, r3, r4) := by first | (rw [hy281]; with_reducible exact H) | (have H2_ := (Option.bind_some _ _).symm.trans H; rw [hy281]; with_reducible exact H2_) | (have H2_ := (Option.bind_some _ _).symm.trans H; with_reducible exact H2_) | with_reducible exact H | (rw [hy281]; exact H) | exact H
                                  have Ny281 := Aside0.mk hy281
                                  clear hy281
                                  have H' := Aside0.mk H
                                  clear H
                                  have p278 : 0 ≤ (x11_3 : Int) := of_decide_eq_true (by first | (with_reducible assumption) | assumption)
                                  have q278 : x11_3 < (x8_1.length : Int) := of_decide_eq_true (by first | (with_reducible assumption) | assumption)
                                  obtain ⟨ad278, e278, hx278_0⟩ := Kd.at_string (Kd.R_reads' HO_8.out).2.2 x11_3 p278 q278
                                  obtain rfl : ad272 = ad278 := (by injection e278)
                                  replace p278 := eq_true p278
                                  replace q278 := eq_true q278
                                  go_wp2_with (first | ((with_reducible refine gate_callee (f := 40) rfl ?_); refine goesL_ (some 79) rfl rfl Tryd.func40 (by kernel_rfl) rfl #[.string (rdOf ByteArray.empty x8_1 x11_3)] rfl (by (try simp only [List.map_toArray, List.map_cons, List.map_nil]); first | done | rfl | (simp only [List.length_drop, List.length_take]; rfl)) ?_; (with_reducible refine (inclineref21_number.calls k3 (rdOf ByteArray.empty x8_1 x11_3) t279 true _ A40.out).mono ?_); rintro e w43 ⟨rfl, hb⟩; refine ⟨_, rfl, ?_⟩; have n0_ := Aside0.mk (Kd.R_below (by (with_reducible repeat (first | apply Kd.R_alloc | apply Kd.R_drewN | apply Kd.R_drew)); exact HO_8.out) hb); have n1_ := Aside0.mk (Kd.R_below (by (with_reducible repeat (first | apply Kd.R_alloc | apply Kd.R_drewN | apply Kd.R_drew)); exact HO_278001.out) hb); have n2_ := Aside0.mk (blk_below (g := gb259) (o := .cells #[.string x260000_3, .slice none 0 0] 30 (0, 0)) (by (with_reducible repeat (first | refine blk_drewN ?_ _ | refine blk_drew ?_ | refine blk_alloc ?_ _)); exact BK259.out) hb); have n3_ := Aside0.mk (blk_below (g := gb277) (o := .cells #[.string (rdOf ByteArray.empty x8_1 0), u278001] 30 (0, 0)) (by (with_reducible repeat (first | refine blk_drewN ?_ _ | refine blk_drew ?_ | refine blk_alloc ?_ _)); exact BK277.out) hb); have n4_ := Aside0.mk (below_step (by repeat (first | (with_reducible first | exact HB.out | apply below_alloc | apply pw_below_drewN | apply below_drew1 | refine below_set ?_ GE259.out | refine below_set ?_ GE277.out) | exact HB.out)) hb); clear HO_8; clear HO_278001; clear BK259; clear BK277; clear HB; have HO_8 := n0_; have HO_278001 := n1_; have BK259 := n2_; have BK277 := n3_; have HB := n4_; clear n0_ n1_ n2_ n3_ n4_; (try clear hb); (try clear hb2); (try clear hk); (try clear hi); have hnb44 := NB277_259.out; have hnc44 := NB259_277.out; have hcz45_0 : w43.cell? ⟨gb277, 0, none⟩ = some (.string (rdOf ByteArray.empty x8_1 0)) := (blk_cell BK277.out 0).trans rfl; have hcz45_1 : w43.cell? ⟨gb277, 1, none⟩ = some (u278001) := (blk_cell BK277.out 1).trans rfl; have hfz45_0 := blk_frozen BK277.out 0; have hfz45_1 := blk_frozen BK277.out 1) | ((with_reducible refine gate_builtin (b := .append) (xs := #[.tmp 86, .tmp 88]) rfl ?_); at_builtin; refine Kd.R_append (Kd.int .u64) (w0 := w) w.heap.size rfl (.tmp 86) (.tmp 88) 28 31 (.int .u64 0) 8 rfl Tryd.underlying28 info31 rfl (by decide) (by omega) u278001 x278001_3 t279 [.int .u64 t279] (fun _ => True) (fun _ => False) rfl rfl ?aP (fun _ hk => hk.elim) ?aF ?aO ?aB ?aS ?aL ?_; (case aP => exact rfl); (case aB => exact (by repeat (first | (with_reducible first | exact HB.out | apply below_alloc | apply pw_below_drewN | apply below_drew1 | refine below_set ?_ GE259.out | refine below_set ?_ GE277.out) | exact HB.out))); (case aF => exact (fun _ _ => trivial)); (case aO => exact (by (with_reducible repeat (first | apply Kd.R_alloc | apply Kd.R_drewN | apply Kd.R_drew)); exact HO_278001.out)); (case aS => exact (below_size (by repeat (first | (with_reducible first | exact HB.out | apply below_alloc | apply pw_below_drewN | apply below_drew1 | refine below_set ?_ GE259.out | refine below_set ?_ GE277.out) | exact HB.out)))); (case aL => have := LMc42.out; omega); intro v282 w46 ho hb hg hat; rw [← Ny281.out] at ho; have n0_ := Aside0.mk (Kd.R_over' (by (with_reducible repeat (first | apply Kd.R_alloc | apply Kd.R_drewN | apply Kd.R_drew)); exact HO_8.out) (Kd.R_typed (by (with_reducible repeat (first | apply Kd.R_alloc | apply Kd.R_drewN | apply Kd.R_drew)); exact HO_278001.out)) (by decide) hg); have n1_ := Aside0.mk (blk_grown (g := gb259) (o := .cells #[.string x260000_3, .slice none 0 0] 30 (0, 0)) (by (with_reducible repeat (first | refine blk_drewN ?_ _ | refine blk_drew ?_ | refine blk_alloc ?_ _)); exact BK259.out) hg (Kd.R_ne HO_278001.out BK259.out (by decide))); have n2_ := Aside0.mk (blk_grown (g := gb277) (o := .cells #[.string (rdOf ByteArray.empty x8_1 0), u278001] 30 (0, 0)) (by (with_reducible repeat (first | refine blk_drewN ?_ _ | refine blk_drew ?_ | refine blk_alloc ?_ _)); exact BK277.out) hg (Kd.R_ne HO_278001.out BK277.out (by decide))); have n3_ := Aside0.mk (hb); have n4_ := Aside0.mk (ho); clear HO_8; clear BK259; clear BK277; clear HB; clear HO_278001; have HO_8 := n0_; have BK259 := n1_; have BK277 := n2_; have HB := n3_; have HO283 := n4_; clear n0_ n1_ n2_ n3_ n4_; clear ho hb hg hat; obtain ⟨Ao47, co47, eo47⟩ := Kd.R_slice HO283.out; subst eo47; have hcz48_0 : w46.cell? ⟨gb277, 0, none⟩ = some (.string (rdOf ByteArray.empty x8_1 0)) := (blk_cell BK277.out 0).trans rfl; have hcz48_1 : w46.cell? ⟨gb277, 1, none⟩ = some (u278001) := (blk_cell BK277.out 1).trans rfl; have hfz48_0 := blk_frozen BK277.out 0; have hfz48_1 := blk_frozen BK277.out 1))
                                  go_roundg k3
                                  case measure => have := HK1.out; have := HJ14.out; have := HK3.out; omega
                                  case rel => exact ⟨(wrap64 (x11_3 + 1)), (x260000_3), (y281), (.slice Ao47 y281.length co47), (by first | rfl | (simp; done) | (simp [*]; done)), H', ⟨by have := HK1.out; have := HJ14.out; have := HK3.out; omega⟩, ⟨by (with_reducible repeat (first | apply Kd.R_alloc | apply Kd.R_drewN | apply Kd.R_drew)); exact Kd.R_mono (Kd.R_far (p := ⟨gb277, 1, none⟩) (Kd.R_types HO_8.out BK277.out (by decide)) (fun _ hk => hk.2) (.slice Ao47 y281.length co47)) (fun _ hk => trivial)⟩, ⟨by (with_reducible repeat (first | apply Kd.R_alloc | apply Kd.R_drewN | apply Kd.R_drew)); exact Kd.R_mono (Kd.R_far (p := ⟨gb277, 1, none⟩) (Kd.R_types HO283.out BK277.out (by decide)) (fun _ hk => hk.2) (.slice Ao47 y281.length co47)) (fun _ hk => trivial)⟩, ⟨by (with_reducible repeat (first | refine blk_drewN ?_ _ | refine blk_drew ?_ | refine blk_alloc ?_ _)); refine blk_far ?_ NB259_277.out _; (with_reducible repeat (first | refine blk_drewN ?_ _ | refine blk_drew ?_ | refine blk_alloc ?_ _)); exact BK259.out⟩, ⟨by (with_reducible repeat (first | refine blk_drewN ?_ _ | refine blk_drew ?_ | refine blk_alloc ?_ _)); refine blk_put (cs := #[.string (rdOf ByteArray.empty x8_1 0), u278001]) ?_ 1 _ rfl; (with_reducible repeat (first | refine blk_drewN ?_ _ | refine blk_drew ?_ | refine blk_alloc ?_ _)); exact BK277.out⟩, ⟨by repeat (first | (with_reducible first | exact HB.out | apply below_alloc | apply pw_below_drewN | apply below_drew1 | refine below_set ?_ GE259.out | refine below_set ?_ GE277.out) | exact HB.out)⟩⟩
                                · rw [if_neg c42] at H
                                  exact absurd H (by simp)
                              · replace c41 := Bool.eq_false_iff.mpr c41
                                subst c41
                                have H1 : (some ((⟨#[]⟩ : ByteArray), ([] : List Int), true, 212)) = some (r1, r2, r3, r4) := by rw [if_neg (show ¬ (false = true) by decide)] at H; exact H
                                clear H
                                have H := H1
                                clear H1
                                simp only [Option.some.injEq, Prod.mk.injEq] at H
                                obtain ⟨rfl, rfl, rfl, rfl⟩ := H
                                have p278 : 0 ≤ (x11_3 : Int) := of_decide_eq_true (by first | (with_reducible assumption) | assumption)
                                have q278 : x11_3 < (x8_1.length : Int) := of_decide_eq_true (by first | (with_reducible assumption) | assumption)
                                obtain ⟨ad278, e278, hx278_0⟩ := Kd.at_string (Kd.R_reads' HO_8.out).2.2 x11_3 p278 q278
                                obtain rfl : ad272 = ad278 := (by injection e278)
                                replace p278 := eq_true p278
                                replace q278 := eq_true q278
                                go_wp2_with (first | ((with_reducible refine gate_callee (f := 40) rfl ?_); refine goesL_ (some 79) rfl rfl Tryd.func40 (by kernel_rfl) rfl #[.string (rdOf ByteArray.empty x8_1 x11_3)] rfl (by (try simp only [List.map_toArray, List.map_cons, List.map_nil]); first | done | rfl | (simp only [List.length_drop, List.length_take]; rfl)) ?_; (with_reducible refine (inclineref21_number.calls k3 (rdOf ByteArray.empty x8_1 x11_3) t279 false _ A40.out).mono ?_); rintro e w49 ⟨rfl, hb⟩; refine ⟨_, rfl, ?_⟩; have n0_ := Aside0.mk (Kd.R_below (by (with_reducible repeat (first | apply Kd.R_alloc | apply Kd.R_drewN | apply Kd.R_drew)); exact HO_8.out) hb); have n1_ := Aside0.mk (Kd.R_below (by (with_reducible repeat (first | apply Kd.R_alloc | apply Kd.R_drewN | apply Kd.R_drew)); exact HO_278001.out) hb); have n2_ := Aside0.mk (blk_below (g := gb259) (o := .cells #[.string x260000_3, .slice none 0 0] 30 (0, 0)) (by (with_reducible repeat (first | refine blk_drewN ?_ _ | refine blk_drew ?_ | refine blk_alloc ?_ _)); exact BK259.out) hb); have n3_ := Aside0.mk (blk_below (g := gb277) (o := .cells #[.string (rdOf ByteArray.empty x8_1 0), u278001] 30 (0, 0)) (by (with_reducible repeat (first | refine blk_drewN ?_ _ | refine blk_drew ?_ | refine blk_alloc ?_ _)); exact BK277.out) hb); have n4_ := Aside0.mk (below_step (by repeat (first | (with_reducible first | exact HB.out | apply below_alloc | apply pw_below_drewN | apply below_drew1 | refine below_set ?_ GE259.out | refine below_set ?_ GE277.out) | exact HB.out)) hb); clear HO_8; clear HO_278001; clear BK259; clear BK277; clear HB; have HO_8 := n0_; have HO_278001 := n1_; have BK259 := n2_; have BK277 := n3_; have HB := n4_; clear n0_ n1_ n2_ n3_ n4_; (try clear hb); (try clear hb2); (try clear hk); (try clear hi); have hnb50 := NB259_277.out; have hnc50 := NB277_259.out; have hcz51_0 : w49.cell? ⟨gb259, 0, none⟩ = some (.string x260000_3) := (blk_cell BK259.out 0).trans rfl; have hcz51_1 : w49.cell? ⟨gb259, 1, none⟩ = some (.slice none 0 0) := (blk_cell BK259.out 1).trans rfl; have hfz51_0 := blk_frozen BK259.out 0; have hfz51_1 := blk_frozen BK259.out 1))
                                refine bodyPost_ret (results_ctt rfl _ _ gb259 30 #[.string (⟨#[]⟩ : ByteArray), .slice none 0 0] (0, 0) _ rfl (by (with_reducible repeat (first | refine blk_drewN ?_ _ | refine blk_drew ?_ | refine blk_alloc ?_ _)); refine blk_put (cs := #[.string (⟨#[]⟩ : ByteArray), .slice none 0 0]) ?_ 1 _ rfl; (with_reducible repeat (first | refine blk_drewN ?_ _ | refine blk_drew ?_ | refine blk_alloc ?_ _)); refine blk_put (cs := #[.string x260000_3, .slice none 0 0]) ?_ 0 _ rfl; (with_reducible repeat (first | refine blk_drewN ?_ _ | refine blk_drew ?_ | refine blk_alloc ?_ _)); exact BK259.out) Tryd.underlying30 rfl (by kernel_rfl)) rfl ?_
                                exact ⟨_, by first | rfl | (simp [errW_none, errW_some] <;> rfl) | (simp [*, errW_none, errW_some] <;> rfl), by first | exact Kd.R_nil _ _ _ _ _ | exact Kd.N_nil _ _ _ _ _ | exact Kd.V_nil _ _ _ _ _ | exact Kd.Q_nil _ _ _ _ _ | exact Kd.S_nil _ _ _ _ _, by repeat (first | (with_reducible first | exact HB.out | apply below_alloc | apply pw_below_drewN | apply below_drew1 | refine below_set ?_ GE259.out | refine below_set ?_ GE277.out) | exact HB.out)⟩
                            · rw [if_neg c39] at H
                              exact absurd H (by simp)
                          · rw [if_neg c38] at H
                            have c38b0 : decide (x11_3 < (x8_1.length : Int)) = false := decide_eq_false c38
                            clear c38
                            simp only [Option.some.injEq, Prod.mk.injEq] at H
                            obtain ⟨rfl, rfl, rfl, rfl⟩ := H
                            have hnb52 := NB277_259.out
                            have hnc52 := NB259_277.out
                            have hcz53_0 : wr.cell? ⟨gb277, 0, none⟩ = some (.string (rdOf ByteArray.empty x8_1 0)) := (blk_cell BK277.out 0).trans rfl
                            have hcz53_1 : wr.cell? ⟨gb277, 1, none⟩ = some (u278001) := (blk_cell BK277.out 1).trans rfl
                            have hfz53_0 := blk_frozen BK277.out 0
                            have hfz53_1 := blk_frozen BK277.out 1
                            have hcz54_0 : wr.cell? ⟨gb259, 0, none⟩ = some (.string x260000_3) := (blk_cell BK259.out 0).trans rfl
                            have hcz54_1 : wr.cell? ⟨gb259, 1, none⟩ = some (.slice none 0 0) := (blk_cell BK259.out 1).trans rfl
                            have hfz54_0 := blk_frozen BK259.out 0
                            have hfz54_1 := blk_frozen BK259.out 1
                            obtain ⟨Ao55, co55, eo55⟩ := Kd.R_slice HO_278001.out
                            subst eo55
                            go_wp2
                            refine bodyPost_ret (results_ctt rfl _ _ gb259 30 #[.string (rdOf ByteArray.empty x8_1 0), .slice Ao55 x278001_3.length co55] (0, 0) _ rfl (by (with_reducible repeat (first | refine blk_drewN ?_ _ | refine blk_drew ?_ | refine blk_alloc ?_ _)); refine blk_put (cs := #[.string (rdOf ByteArray.empty x8_1 0), .slice none 0 0]) ?_ 1 _ rfl; (with_reducible repeat (first | refine blk_drewN ?_ _ | refine blk_drew ?_ | refine blk_alloc ?_ _)); refine blk_put (cs := #[.string x260000_3, .slice none 0 0]) ?_ 0 _ rfl; (with_reducible repeat (first | refine blk_drewN ?_ _ | refine blk_drew ?_ | refine blk_alloc ?_ _)); exact BK259.out) Tryd.underlying30 rfl (by kernel_rfl)) rfl ?_
                            exact ⟨_, by first | rfl | (simp [errW_none, errW_some] <;> rfl) | (simp [*, errW_none, errW_some] <;> rfl), by (with_reducible repeat (first | apply Kd.R_alloc | apply Kd.R_drewN | apply Kd.R_drew)); exact Kd.R_mono (Kd.R_far (p := ⟨gb259, 1, none⟩) (Kd.R_far (p := ⟨gb259, 0, none⟩) (Kd.R_types HO_278001.out BK259.out (by decide)) (fun _ hk => hk.2) (.string (rdOf ByteArray.empty x8_1 0))) (fun _ hk => hk.2) (.slice Ao55 x278001_3.length co55)) (fun _ hk => trivial), by repeat (first | (with_reducible first | exact HB.out | apply below_alloc | apply pw_below_drewN | apply below_drew1 | refine below_set ?_ GE259.out | refine below_set ?_ GE277.out) | exact HB.out)⟩
                    · rw [if_neg c33] at H
                      have c33b0 : (t273 == (wrap64 ((x8_1.length : Int) - 1))) = false := beq_eq_false_iff_ne.mpr c33
                      have c33b1 : (t273 != (wrap64 ((x8_1.length : Int) - 1))) = true := bne_iff_ne.mpr c33
                      simp only [Option.some.injEq, Prod.mk.injEq] at H
                      obtain ⟨rfl, rfl, rfl, rfl⟩ := H
                      obtain ⟨Ao56, co56, eo56⟩ := Kd.R_slice HO_8.out
                      subst eo56
                      have p272 : 0 ≤ (0 : Int) := (by omega)
                      have q272 : 0 < (x8_1.length : Int) := of_decide_eq_true (by first | (with_reducible assumption) | assumption)
                      obtain ⟨ad272, e272, hx272_0⟩ := Kd.at_string (Kd.R_reads' HO_8.out).2.2 0 p272 q272
                      cases e272
                      have qi272 : (0 < x8_1.length) = True := eq_true (by omega)
                      (try rw [show ((0 : Int)).toNat = 0 from rfl] at hx272_0)
                      (try rw [Addr.add_zero'] at hx272_0)
                      replace p272 := eq_true p272
                      replace q272 := eq_true q272
                      go_wp2_with (first | ((with_reducible refine gate_callee (f := 29) rfl ?_); refine goesL_ (some 52) rfl rfl Tryd.func29 (by kernel_rfl) rfl #[.string (rdOf ByteArray.empty x8_1 0)] rfl (by (try simp only [List.map_toArray, List.map_cons, List.map_nil]); first | done | rfl | (simp only [List.length_drop, List.length_take]; rfl)) ?_; (with_reducible refine (inclineref21_Takes.calls kj14 (rdOf ByteArray.empty x8_1 0) t273 _ A28.out).mono ?_); rintro e w' ⟨rfl, ⟨nd, rfl⟩⟩; refine ⟨_, rfl, ?_⟩; (try (rw [drewN_self wc]; generalize hq_ : World.drewN wc _ = wc; have n0_ : Aside0 (Kd.R Kd.string 9 wc w.heap.size (fun _ => True) (.slice (some ad272) x8_1.length co56) x8_1) := ⟨by rw [← hq_]; exact (by (with_reducible repeat (first | apply Kd.R_alloc | apply Kd.R_drewN | apply Kd.R_drew)); exact HO_8.out)⟩; have n1_ : Aside0 (wc.heap[gb259]? = some (.cells #[.string (⟨#[]⟩ : ByteArray), .slice none 0 0] 30 (0, 0))) := ⟨by rw [← hq_]; exact (by (with_reducible repeat (first | refine blk_drewN ?_ _ | refine blk_drew ?_ | refine blk_alloc ?_ _)); exact BK259.out)⟩; have n2_ : Aside0 (Below w.heap.size w wc) := ⟨by rw [← hq_]; exact (by repeat (first | (with_reducible first | exact HB.out | apply below_alloc | apply pw_below_drewN | apply below_drew1 | refine below_set ?_ GE259.out) | exact HB.out))⟩; clear HO_8 BK259 HB hq_; have HO_8 := n0_; have BK259 := n1_; have HB := n2_; clear n0_ n1_ n2_)); have p274 : 0 ≤ (0 : Int) := (by omega); have q274 : 0 < (x8_1.length : Int) := of_decide_eq_true (by first | (with_reducible assumption) | assumption); obtain ⟨ad274, e274, hx274_0⟩ := Kd.at_string (Kd.R_reads' HO_8.out).2.2 0 p274 q274; obtain rfl : ad272 = ad274 := (by injection e274); have qi274 : (0 < x8_1.length) = True := eq_true (by omega); (try rw [show ((0 : Int)).toNat = 0 from rfl] at hx274_0); (try rw [Addr.add_zero'] at hx274_0); replace p274 := eq_true p274; replace q274 := eq_true q274) | ((with_reducible refine gate_callee (f := 29) rfl ?_); refine goesL_ (some 58) rfl rfl Tryd.func29 (by kernel_rfl) rfl #[.string (rdOf ByteArray.empty x8_1 0)] rfl (by (try simp only [List.map_toArray, List.map_cons, List.map_nil]); first | done | rfl | (simp only [List.length_drop, List.length_take]; rfl)) ?_; (with_reducible refine (inclineref21_Takes.calls kj14 (rdOf ByteArray.empty x8_1 0) t273 _ A32.out).mono ?_); rintro e w' ⟨rfl, ⟨nd, rfl⟩⟩; refine ⟨_, rfl, ?_⟩; (try (rw [drewN_self wc]; generalize hq_ : World.drewN wc _ = wc; have n0_ : Aside0 (Kd.R Kd.string 9 wc w.heap.size (fun _ => True) (.slice (some ad272) x8_1.length co56) x8_1) := ⟨by rw [← hq_]; exact (by (with_reducible repeat (first | apply Kd.R_alloc | apply Kd.R_drewN | apply Kd.R_drew)); exact HO_8.out)⟩; have n1_ : Aside0 (wc.heap[gb259]? = some (.cells #[.string (⟨#[]⟩ : ByteArray), .slice none 0 0] 30 (0, 0))) := ⟨by rw [← hq_]; exact (by (with_reducible repeat (first | refine blk_drewN ?_ _ | refine blk_drew ?_ | refine blk_alloc ?_ _)); exact BK259.out)⟩; have n2_ : Aside0 (Below w.heap.size w wc) := ⟨by rw [← hq_]; exact (by repeat (first | (with_reducible first | exact HB.out | apply below_alloc | apply pw_below_drewN | apply below_drew1 | refine below_set ?_ GE259.out) | exact HB.out))⟩; clear HO_8 BK259 HB hq_; have HO_8 := n0_; have BK259 := n1_; have HB := n2_; clear n0_ n1_ n2_)); have hcz57_0 : wc.cell? ⟨gb259, 0, none⟩ = some (.string (⟨#[]⟩ : ByteArray)) := (blk_cell BK259.out 0).trans rfl; have hcz57_1 : wc.cell? ⟨gb259, 1, none⟩ = some (.slice none 0 0) := (blk_cell BK259.out 1).trans rfl; have hfz57_0 := blk_frozen BK259.out 0; have hfz57_1 := blk_frozen BK259.out 1))
                      refine bodyPost_ret (results_ctt rfl _ _ gb259 30 #[.string (⟨#[]⟩ : ByteArray), .slice none 0 0] (0, 0) _ rfl (by (with_reducible repeat (first | refine blk_drewN ?_ _ | refine blk_drew ?_ | refine blk_alloc ?_ _)); refine blk_put (cs := #[.string (⟨#[]⟩ : ByteArray), .slice none 0 0]) ?_ 1 _ rfl; (with_reducible repeat (first | refine blk_drewN ?_ _ | refine blk_drew ?_ | refine blk_alloc ?_ _)); refine blk_put (cs := #[.string (⟨#[]⟩ : ByteArray), .slice none 0 0]) ?_ 0 _ rfl; (with_reducible repeat (first | refine blk_drewN ?_ _ | refine blk_drew ?_ | refine blk_alloc ?_ _)); exact BK259.out) Tryd.underlying30 rfl (by kernel_rfl)) rfl ?_
                      exact ⟨_, by first | rfl | (simp [errW_none, errW_some] <;> rfl) | (simp [*, errW_none, errW_some] <;> rfl), by first | exact Kd.R_nil _ _ _ _ _ | exact Kd.N_nil _ _ _ _ _ | exact Kd.V_nil _ _ _ _ _ | exact Kd.Q_nil _ _ _ _ _ | exact Kd.S_nil _ _ _ _ _, by repeat (first | (with_reducible first | exact HB.out | apply below_alloc | apply pw_below_drewN | apply below_drew1 | refine below_set ?_ GE259.out) | exact HB.out)⟩
                · rw [if_neg c27] at H
                  exact absurd H (by simp)

end Go.Proofs.YtlfoaaeelcmhiaaDoor.G
end

section
-- Written by a program of this session (wip/gprint.py: the kit's print, with contracts proved by hand)
namespace Go.Proofs.YtlfoaaeelcmhiaaDoor.G
open Go.RowKit Go.Proofs.YtlfoaaeelcmhiaaDoorW.PrintWords Go.Proofs.YtlfoaaeelcmhiaaDoorW.PrintLast Go.Proofs.YtlfoaaeelcmhiaaDoorW.PrintMore
attribute [local go_sem] max2_int min2_int max_two min_two max_three min_three max_four min_four   -- for this text's walks alone
set_option linter.unusedVariables false
set_option linter.unusedSimpArgs false

/-! ### inclineref21_Parse: function 13 -/
def inclineref21_Parse.l0 : Nat → List (S30) → List ByteArray → Int → Option ((List (S30)) × Int × Int)
  | 0, _, _, _ => none
  | k + 1, x5, x6, x7 => if x7 < (x6.length : Int) then (if 0 ≤ x7 then ((inclineref21_command.f k (rdOf ByteArray.empty x6 x7) (x5.length : Int)).bind fun bt291 => (if bt291.2.2.2 = 0 then (if bt291.2.2.1 = true then (if x5.length < 3518437208883 then (inclineref21_Parse.l0 k (x5 ++ [(⟨bt291.1, bt291.2.1⟩ : S30)]) x6 (wrap64 (x7 + 1))) else (none)) else (inclineref21_Parse.l0 k x5 x6 (wrap64 (x7 + 1)))) else (some (([] : List (S30)), wrap64 (x7 + 1), bt291.2.2.2)))) else (none)) else (some (x5, 0, 0))
def inclineref21_Parse.f (k : Nat) (a0 : ByteArray) : Option ((List (S30)) × Int × Int) := if (a0.size : Int) > 65536 then (some (([] : List (S30)), 0, 210)) else ((inclineref21_split.f k a0 10).bind fun t287 => (inclineref21_Parse.l0 k (([] : List (S30))) t287 0))
theorem inclineref21_Parse.mono_l : ∀ k, (∀ y0 y1 y2, LeO (inclineref21_Parse.l0 k y0 y1 y2) (inclineref21_Parse.l0 (k + 1) y0 y1 y2))
  | 0 => fun _ _ _ r h => by simp [inclineref21_Parse.l0] at h
  | k + 1 => by
    have ih0 := inclineref21_Parse.mono_l k
    · intro y0 y1 y2
      unfold inclineref21_Parse.l0
      repeat' first
      | (with_reducible exact ih0 _ _ _)
      | (with_reducible exact inclineref21_command.mono _ _ _)
      | (with_reducible exact inclineref21_split.mono _ _ _)
      | (with_reducible exact LeO.refl _)
      | (with_reducible exact LeO.none _)
      | (with_reducible refine LeO.ite ?_ ?_)
      | (with_reducible refine LeO.bind ?_ (fun _ => ?_))
      | exact ih0 _ _ _
      | exact inclineref21_command.mono _ _ _
      | exact inclineref21_split.mono _ _ _
      | exact LeO.none _
      | refine LeO.ite ?_ ?_
      | refine LeO.bind ?_ (fun _ => ?_)
theorem inclineref21_Parse.mono : ∀ a0 k, LeO (inclineref21_Parse.f k a0) (inclineref21_Parse.f (k + 1) a0) := by
  intro a0 k
  have ih0 := inclineref21_Parse.mono_l k
  unfold inclineref21_Parse.f
  repeat' first
      | (with_reducible exact ih0 _ _ _)
      | (with_reducible exact inclineref21_command.mono _ _ _)
      | (with_reducible exact inclineref21_split.mono _ _ _)
      | (with_reducible exact LeO.refl _)
      | (with_reducible exact LeO.none _)
      | (with_reducible refine LeO.ite ?_ ?_)
      | (with_reducible refine LeO.bind ?_ (fun _ => ?_))
      | exact ih0 _ _ _
      | exact inclineref21_command.mono _ _ _
      | exact inclineref21_split.mono _ _ _
      | exact LeO.none _
      | refine LeO.ite ?_ ?_
      | refine LeO.bind ?_ (fun _ => ?_)
set_option maxHeartbeats 8000000 in
set_option maxRecDepth 100000 in
theorem inclineref21_Parse.calls (k : Nat) (a0 : ByteArray) (r1 : List (S30)) (r2 : Int) (r3 : Int) (w : World) (h : inclineref21_Parse.f k a0 = some (r1, r2, r3)) :
    Calls Tryd.prog 13 #[.string a0] w fun e w' => ∃ v0_ : Value, e = .returned (.tuple #[v0_, .int .i64 r2, .int .i64 r3]) ∧ Kd.S k30 30 w' w.heap.size (fun _ => True) v0_ r1 ∧ Below w.heap.size w w' := by
  have hu30 := Tryd.underlying30
  have HB := Aside0.mk (Below.refl w.heap.size w)
  have H : (if (a0.size : Int) > 65536 then (some (([] : List (S30)), 0, 210)) else ((inclineref21_split.f k a0 10).bind fun t287 => (inclineref21_Parse.l0 k (([] : List (S30))) t287 0))) = some (r1, r2, r3) := h
  clear h
  by_cases c2 : (a0.size : Int) > 65536
  · rw [if_pos c2] at H
    have c2b0 : decide (65536 < (a0.size : Int)) = true := decide_eq_true c2
    have c2b1 : decide (65536 < a0.size) = true := decide_eq_true (by omega)
    clear c2
    simp only [Option.some.injEq, Prod.mk.injEq] at H
    obtain ⟨rfl, rfl, rfl⟩ := H
    go_enter Tryd.func13, Tryd.ntmps13
    go_wp2
    go_ret3
    exact ⟨_, by first | rfl | (simp [errW_none, errW_some] <;> rfl) | (simp [*, errW_none, errW_some] <;> rfl), by first | exact Kd.S_nil _ _ _ _ _ | exact Kd.N_nil _ _ _ _ _ | exact Kd.V_nil _ _ _ _ _ | exact Kd.Q_nil _ _ _ _ _ | exact Kd.R_nil _ _ _ _ _, by repeat (first | (with_reducible first | exact HB.out | apply below_alloc | apply pw_below_drewN | apply below_drew1) | exact HB.out)⟩
  · rw [if_neg c2] at H
    have c2b0 : decide (65536 < (a0.size : Int)) = false := decide_eq_false c2
    have c2b1 : decide (65536 < a0.size) = false := decide_eq_false (by omega)
    clear c2
    obtain ⟨y284, hy284⟩ : ∃ y_ : List (S30), y_ = (([] : List (S30))) := ⟨_, rfl⟩
    replace H : ((inclineref21_split.f k a0 10).bind fun t287 => (inclineref21_Parse.l0 k y284 t287 0)) = some (r1, r2, r3) := by first | (rw [hy284]; with_reducible exact H) | (have H2_ := (Option.bind_some _ _).symm.trans H; rw [hy284]; with_reducible exact H2_) | (have H2_ := (Option.bind_some _ _).symm.trans H; with_reducible exact H2_) | with_reducible exact H | (rw [hy284]; exact H) | exact H
    have Ny284 := Aside0.mk hy284
    clear hy284
    replace H := Option.bind_eq_some_iff.mp H
    obtain ⟨t287, A30, H⟩ := H
    replace H : (inclineref21_Parse.l0 k y284 t287 0) = some (r1, r2, r3) := H
    have A3 := Aside0.mk A30
    clear A30
    have H' := Aside0.mk H
    clear H
    go_enter Tryd.func13, Tryd.ntmps13
    go_wp2_with (first | ((with_reducible refine gate_dst (N := 14) rfl ?_); refine Kd.S_lit k30 _ 30 ?hg (N := 14) ?hd (xs := ([] : List (S30))) (inner := []) (ok := fun _ => True) (okp := fun _ => True) ?hr ?hp (fun _ hk => hk) trivial (Below.refl _ _) (Nat.le_refl _) (by simp) ?_; (case hd => rfl); (case hg => rfl); (case hr => first | (go_simp; done) | (go_simp; rfl)); (case hp => exact (Reps.none _ _)); intro v285 w4 ho5 hb hg_ hnew_; clear hg_ hnew_; (first | rw [← Ny284.out] at ho5 | (simp only [Int.reduceToNat] at ho5; rw [← Ny284.out] at ho5)); have n0_ := Aside0.mk (Kd.S_lower ho5 (below_size (by repeat (first | (with_reducible first | exact HB.out | apply below_alloc | apply pw_below_drewN | apply below_drew1) | exact HB.out)))); have n1_ := Aside0.mk (below_step (by repeat (first | (with_reducible first | exact HB.out | apply below_alloc | apply pw_below_drewN | apply below_drew1) | exact HB.out)) hb); clear HB; have HO286 := n0_; have HB := n1_; clear n0_ n1_; clear hb ho5) | ((with_reducible refine gate_callee (f := 25) rfl ?_); refine goesL_ (some 16) rfl rfl Tryd.func25 (by kernel_rfl) rfl #[.string a0, .int .u8 10] rfl (by (try simp only [List.map_toArray, List.map_cons, List.map_nil]); first | done | rfl | (simp only [List.length_drop, List.length_take]; rfl)) ?_; (with_reducible refine (inclineref21_split.calls k a0 10 t287 _ A3.out).mono ?_); rintro e w6 ⟨v288, rfl, ho0, hb⟩; refine ⟨_, rfl, ?_⟩; have n0_ := Aside0.mk (Kd.S_below (by (with_reducible repeat (first | apply Kd.S_alloc | apply Kd.S_drewN | apply Kd.S_drew)); exact HO286.out) hb); have n1_ := Aside0.mk (Kd.R_lower ho0 (below_size (by repeat (first | (with_reducible first | exact HB.out | apply below_alloc | apply pw_below_drewN | apply below_drew1) | exact HB.out)))); have n2_ := Aside0.mk (below_step (by repeat (first | (with_reducible first | exact HB.out | apply below_alloc | apply pw_below_drewN | apply below_drew1) | exact HB.out)) hb); clear HO286; clear HB; have HO286 := n0_; have HO289 := n1_; have HB := n2_; clear n0_ n1_ n2_; (try clear hb); (try clear hb2); (try clear hk); (try clear hi); (try clear ho0)))
    go_loopg [5, 7] k (fun kq v5 v7 w' => ∃ (x5_1 : List (S30)) (x7_1 : Int), v7 = .int .i64 x7_1 ∧ Aside0 (inclineref21_Parse.l0 kq x5_1 t287 x7_1 = some (r1, r2, r3)) ∧ Aside0 (kq ≤ k) ∧ Aside0 (Kd.S k30 30 w' w.heap.size (fun _ => True) v5 x5_1) ∧ Aside0 (Kd.R Kd.string 9 w' w.heap.size (fun _ => True) v288 t287) ∧ Aside0 (Below w.heap.size w w'))
    case atStart => exact ⟨(y284), (0), (by first | rfl | (simp; done) | (simp [*]; done)), H', ⟨Nat.le_refl _⟩, ⟨by (with_reducible repeat (first | apply Kd.S_alloc | apply Kd.S_drewN | apply Kd.S_drew)); exact HO286.out⟩, ⟨by (with_reducible repeat (first | apply Kd.R_alloc | apply Kd.R_drewN | apply Kd.R_drew)); exact HO289.out⟩, ⟨by repeat (first | (with_reducible first | exact HB.out | apply below_alloc | apply pw_below_drewN | apply below_drew1) | exact HB.out)⟩⟩
    case round =>
      clear H'
      try clear c1
      try clear c2
      try clear c2b0
      try clear c2b1
      try clear p2
      obtain ⟨x5_1, x7_1, rfl, HA, HK1, HO_5, HO_6, HB⟩ := hrel
      cases gk with
      | zero => exact absurd HA.out (by simp [inclineref21_Parse.l0])
      | succ k1 =>
        have H := HA.out
        clear HA
        simp only [inclineref21_Parse.l0] at H
        by_cases c7 : x7_1 < (t287.length : Int)
        · rw [if_pos c7] at H
          have c7b0 : decide (x7_1 < (t287.length : Int)) = true := decide_eq_true c7
          clear c7
          by_cases c8 : 0 ≤ x7_1
          · rw [if_pos c8] at H
            have c8b0 : decide (0 ≤ x7_1) = true := decide_eq_true c8
            clear c8
            replace H := Option.bind_eq_some_iff.mp H
            obtain ⟨⟨t291, t292, t295, t296⟩, A90, H⟩ := H
            replace H : (if t296 = 0 then (if t295 = true then (if x5_1.length < 3518437208883 then (inclineref21_Parse.l0 k1 (x5_1 ++ [(⟨t291, t292⟩ : S30)]) t287 (wrap64 (x7_1 + 1))) else (none)) else (inclineref21_Parse.l0 k1 x5_1 t287 (wrap64 (x7_1 + 1)))) else (some (([] : List (S30)), wrap64 (x7_1 + 1), t296))) = some (r1, r2, r3) := H
            have A9 := Aside0.mk A90
            clear A90
            by_cases c10 : t296 = 0
            · rw [if_pos c10] at H
              have c10b0 : (t296 == 0) = true := beq_iff_eq.mpr c10
              have c10b1 : (t296 != 0) = false := bne_eq_false_iff_eq.mpr c10
              clear c10
              by_cases c11 : t295 = true
              · subst c11
                have H1 : (if x5_1.length < 3518437208883 then (inclineref21_Parse.l0 k1 (x5_1 ++ [(⟨t291, t292⟩ : S30)]) t287 (wrap64 (x7_1 + 1))) else (none)) = some (r1, r2, r3) := by rw [if_pos rfl] at H; exact H
                clear H
                have H := H1
                clear H1
                by_cases c12 : x5_1.length < 3518437208883
                · rw [if_pos c12] at H
                  have LMc12 := Aside0.mk c12
                  clear c12
                  obtain ⟨y298, hy298⟩ : ∃ y_ : List (S30), y_ = (x5_1 ++ [(⟨t291, t292⟩ : S30)]) := ⟨_, rfl⟩
                  replace H : (inclineref21_Parse.l0 k1 y298 t287 (wrap64 (x7_1 + 1))) = some (r1, r2, r3) := by first | (rw [hy298]; with_reducible exact H) | (have H2_ := (Option.bind_some _ _).symm.trans H; rw [hy298]; with_reducible exact H2_) | (have H2_ := (Option.bind_some _ _).symm.trans H; with_reducible exact H2_) | with_reducible exact H | (rw [hy298]; exact H) | exact H
                  have Ny298 := Aside0.mk hy298
                  clear hy298
                  have H' := Aside0.mk H
                  clear H
                  obtain ⟨Ao13, co13, eo13⟩ := Kd.R_slice HO_6.out
                  subst eo13
                  have p290 : 0 ≤ (x7_1 : Int) := of_decide_eq_true (by first | (with_reducible assumption) | assumption)
                  have q290 : x7_1 < (t287.length : Int) := of_decide_eq_true (by first | (with_reducible assumption) | assumption)
                  obtain ⟨ad290, e290, hx290_0⟩ := Kd.at_string (Kd.R_reads' HO_6.out).2.2 x7_1 p290 q290
                  cases e290
                  replace p290 := eq_true p290
                  replace q290 := eq_true q290
                  obtain ⟨Ao14, co14, eo14⟩ := Kd.S_slice HO_5.out
                  subst eo14
                  go_wp2_with (first | ((with_reducible refine gate_callee (f := 26) rfl ?_); refine goesL_ (some 30) rfl rfl Tryd.func26 (by kernel_rfl) rfl #[.string (rdOf ByteArray.empty t287 x7_1), .int .i64 (x5_1.length : Int)] rfl (by (try simp only [List.map_toArray, List.map_cons, List.map_nil]); first | done | rfl | (simp only [List.length_drop, List.length_take]; rfl)) ?_; (with_reducible refine (inclineref21_command.calls k1 (rdOf ByteArray.empty t287 x7_1) (x5_1.length : Int) t291 t292 true t296 _ A9.out).mono ?_); rintro e w15 ⟨v293, rfl, ho0, hb⟩; refine ⟨_, rfl, ?_⟩; have n0_ := Aside0.mk (Kd.S_elder' (by (with_reducible repeat (first | apply Kd.S_alloc | apply Kd.S_drewN | apply Kd.S_drew)); exact HO_5.out) (Kd.R_base ho0) hb); have n1_ := Aside0.mk (Kd.R_below (by (with_reducible repeat (first | apply Kd.R_alloc | apply Kd.R_drewN | apply Kd.R_drew)); exact HO_6.out) hb); have n2_ := Aside0.mk (Kd.R_lower ho0 (below_size (by repeat (first | (with_reducible first | exact HB.out | apply below_alloc | apply pw_below_drewN | apply below_drew1) | exact HB.out)))); have n3_ := Aside0.mk (below_step (by repeat (first | (with_reducible first | exact HB.out | apply below_alloc | apply pw_below_drewN | apply below_drew1) | exact HB.out)) hb); clear HO_5; clear HO_6; clear HB; have HO_5 := n0_; have HO_6 := n1_; have HO294 := n2_; have HB := n3_; clear n0_ n1_ n2_ n3_; (try clear hb); (try clear hb2); (try clear hk); (try clear hi); (try clear ho0)) | ((with_reducible refine gate_dst (N := 8) rfl ?_); refine box_event ?hg (N := 8) ?hd (cs := #[.string (⟨#[]⟩ : ByteArray), .slice none 0 0]) (t := 30) ?hr ?_; (case hd => rfl); (case hg => rfl); (case hr => first | (go_simp; done) | (go_simp; rfl)); intro gb297 hg w16 hbox hb; have n0_ := Aside0.mk (Kd.S_below (Kd.S_elderB (by (with_reducible repeat (first | apply Kd.S_alloc | apply Kd.S_drewN | apply Kd.S_drew)); exact HO_5.out) gb297 (Nat.le_of_eq hg.symm)) hb); have n1_ := Aside0.mk (Kd.R_below (by (with_reducible repeat (first | apply Kd.R_alloc | apply Kd.R_drewN | apply Kd.R_drew)); exact HO_6.out) hb); have n2_ := Aside0.mk (Kd.R_below (by (with_reducible repeat (first | apply Kd.R_alloc | apply Kd.R_drewN | apply Kd.R_drew)); exact HO294.out) hb); have n3_ := Aside0.mk (below_step (by repeat (first | (with_reducible first | exact HB.out | apply below_alloc | apply pw_below_drewN | apply below_drew1) | exact HB.out)) hb); have n4_ := Aside0.mk (hbox); have n5_ := Aside0.mk ((by rw [hg]; exact (below_size (by repeat (first | (with_reducible first | exact HB.out | apply below_alloc | apply pw_below_drewN | apply below_drew1) | exact HB.out))) : w.heap.size ≤ gb297)); have n6_ := Aside0.mk ((by rw [hg]; exact (below_size (by repeat (first | (with_reducible first | exact HB.out | apply below_alloc | apply pw_below_drewN | apply below_drew1) | exact HB.out))) : w.heap.size ≤ gb297)); clear HO_5; clear HO_6; clear HO294; clear HB; have HO_5 := n0_; have HO_6 := n1_; have HO294 := n2_; have HB := n3_; have BK297 := n4_; have GW297 := n5_; have GE297 := n6_; clear n0_ n1_ n2_ n3_ n4_ n5_ n6_; clear hb hbox hg; have hcz17_0 : w16.cell? ⟨gb297, 0, none⟩ = some (.string (⟨#[]⟩ : ByteArray)) := (blk_cell BK297.out 0).trans rfl; have hcz17_1 : w16.cell? ⟨gb297, 1, none⟩ = some (.slice none 0 0) := (blk_cell BK297.out 1).trans rfl; have hfz17_0 := blk_frozen BK297.out 0; have hfz17_1 := blk_frozen BK297.out 1; obtain ⟨Ao18, co18, eo18⟩ := Kd.R_slice HO294.out; subst eo18) | ((with_reducible refine gate_store (t := 30) (p := 8) rfl ?_); refine store_event (t := 30) (p := 8) (v := ?vo_w19) (w1 := ((w16.setCell ⟨gb297, 0, none⟩ (.string t291)).setCell ⟨gb297, 1, none⟩ (.slice Ao18 t292.length co18))) ?hg ?ho ?hn ?hr ?_; (case ho => rfl); (case hg => rfl); (case hn => rfl); (case hr => first | (go_simp; done) | (go_simp; rfl)); intro w19 hw; have n0_ : Aside0 (Kd.S k30 30 w19 w.heap.size (fun k_ => some k_ ≠ (.slice Ao18 t292.length co18 : Value).ownBlock ∧ k_ ≠ gb297) (.slice Ao14 x5_1.length co14) x5_1) := ⟨(by rw [hw]; exact (by (with_reducible repeat (first | apply Kd.S_alloc | apply Kd.S_drewN | apply Kd.S_drew)); exact Kd.S_mono (Kd.S_far (p := ⟨gb297, 1, none⟩) (Kd.S_far (p := ⟨gb297, 0, none⟩) (Kd.S_mono HO_5.out (fun k_ hk => (⟨hk, hk.2⟩ : _ ∧ k_ ≠ gb297))) (fun _ hk => hk.2) (.string t291)) (fun _ hk => hk.2) (.slice Ao18 t292.length co18)) (fun _ hk => ⟨hk.1.1.2, hk.1.2⟩)))⟩; have n1_ : Aside0 (Kd.R Kd.string 9 w19 w.heap.size (fun _ => True) (.slice (some ad290) t287.length co13) t287) := ⟨(by rw [hw]; exact (by (with_reducible repeat (first | apply Kd.R_alloc | apply Kd.R_drewN | apply Kd.R_drew)); exact Kd.R_mono (Kd.R_far (p := ⟨gb297, 1, none⟩) (Kd.R_far (p := ⟨gb297, 0, none⟩) (Kd.R_types HO_6.out BK297.out (by decide)) (fun _ hk => hk.2) (.string t291)) (fun _ hk => hk.2) (.slice Ao18 t292.length co18)) (fun _ hk => trivial)))⟩; have n2_ : Aside0 (Kd.R (Kd.int .u64) 31 w19 w.heap.size (fun _ => True) (.slice Ao18 t292.length co18) t292) := ⟨(by rw [hw]; exact (by (with_reducible repeat (first | apply Kd.R_alloc | apply Kd.R_drewN | apply Kd.R_drew)); exact Kd.R_mono (Kd.R_far (p := ⟨gb297, 1, none⟩) (Kd.R_far (p := ⟨gb297, 0, none⟩) (Kd.R_types HO294.out BK297.out (by decide)) (fun _ hk => hk.2) (.string t291)) (fun _ hk => hk.2) (.slice Ao18 t292.length co18)) (fun _ hk => trivial)))⟩; have n3_ : Aside0 (w19.heap[gb297]? = some (.cells #[.string t291, .slice Ao18 t292.length co18] 30 (0, 0))) := ⟨(by rw [hw]; exact (by (with_reducible repeat (first | refine blk_drewN ?_ _ | refine blk_drew ?_ | refine blk_alloc ?_ _)); refine blk_put (cs := #[.string t291, .slice none 0 0]) ?_ 1 _ rfl; (with_reducible repeat (first | refine blk_drewN ?_ _ | refine blk_drew ?_ | refine blk_alloc ?_ _)); refine blk_put (cs := #[.string (⟨#[]⟩ : ByteArray), .slice none 0 0]) ?_ 0 _ rfl; (with_reducible repeat (first | refine blk_drewN ?_ _ | refine blk_drew ?_ | refine blk_alloc ?_ _)); exact BK297.out))⟩; have n4_ : Aside0 (Below w.heap.size w w19) := ⟨(by rw [hw]; exact (by repeat (first | (with_reducible first | exact HB.out | apply below_alloc | apply pw_below_drewN | apply below_drew1 | refine below_set ?_ GE297.out) | exact HB.out)))⟩; clear hw; clear HO_5; clear HO_6; clear HO294; clear BK297; clear HB; have HO_5 := n0_; have HO_6 := n1_; have HO294 := n2_; have BK297 := n3_; have HB := n4_; clear n0_ n1_ n2_ n3_ n4_; have hcz20_0 : w19.cell? ⟨gb297, 0, none⟩ = some (.string t291) := (blk_cell BK297.out 0).trans rfl; have hcz20_1 : w19.cell? ⟨gb297, 1, none⟩ = some (.slice Ao18 t292.length co18) := (blk_cell BK297.out 1).trans rfl; have hfz20_0 := blk_frozen BK297.out 0; have hfz20_1 := blk_frozen BK297.out 1) | ((with_reducible refine gate_builtin (b := .append) (xs := #[.tmp 40, .tmp 42]) rfl ?_); at_builtin; refine Kd.S_append k30 (w0 := w) w.heap.size rfl (.tmp 40) (.tmp 42) 23 30 (.agg #[(.string ⟨#[]⟩), (.slice none 0 0)]) 40 rfl Tryd.underlying23 info30 rfl (by decide) (by omega) (.slice Ao14 x5_1.length co14) x5_1 (⟨t291, t292⟩ : S30) [.string t291, .slice Ao18 t292.length co18] (fun k_ => k_ ≠ gb297) (fun k_ => some k_ = (.slice Ao18 t292.length co18 : Value).ownBlock) rfl rfl ?aP (fun k_ hk_ => ((Kd.R_mono (ok' := fun k_ => ((fun k_ => k_ ≠ gb297)) k_ ∧ some k_ ≠ (.slice Ao14 x5_1.length co14 : Value).ownBlock) (Kd.R_types (Kd.R_apart' (HO294.out) (Kd.S_typed HO_5.out) (by decide)) BK297.out (by decide)) (fun k_ hk => ⟨hk.2, hk.1.2⟩))).1 k_ hk_.symm) ?aF ?aO ?aB ?aS ?aL ?_; (case aP => exact k30_mkM _ _ _ (⟨t291, t292⟩ : S30) (Kd.R_mono (Kd.R_tight rfl (Kd.R_mono (ok' := fun k_ => ((fun k_ => k_ ≠ gb297)) k_ ∧ some k_ ≠ (.slice Ao14 x5_1.length co14 : Value).ownBlock) (Kd.R_types (Kd.R_apart' (HO294.out) (Kd.S_typed HO_5.out) (by decide)) BK297.out (by decide)) (fun k_ hk => ⟨hk.2, hk.1.2⟩))) (fun _ h_ => h_))); (case aB => exact (by repeat (first | (with_reducible first | exact HB.out | apply below_alloc | apply pw_below_drewN | apply below_drew1 | refine below_set ?_ GE297.out) | exact HB.out))); (case aF => exact (fun k_ hk => Kd.freshB (g := gb297) (o := .cells #[.string t291, .slice Ao18 t292.length co18] 30 (0, 0)) (by (with_reducible repeat (first | refine blk_drewN ?_ _ | refine blk_drew ?_ | refine blk_alloc ?_ _)); exact BK297.out) k_ hk)); (case aO => exact (by (with_reducible repeat (first | apply Kd.S_alloc | apply Kd.S_drewN | apply Kd.S_drew)); exact Kd.S_mono HO_5.out (fun k_ hk => ⟨hk.2, fun e_ => hk.1 e_⟩))); (case aS => exact (below_size (by repeat (first | (with_reducible first | exact HB.out | apply below_alloc | apply pw_below_drewN | apply below_drew1 | refine below_set ?_ GE297.out) | exact HB.out)))); (case aL => have := LMc12.out; omega); intro v299 w21 ho hb hg hat; rw [← Ny298.out] at ho; have n0_ := Aside0.mk (Kd.R_over' (by (with_reducible repeat (first | apply Kd.R_alloc | apply Kd.R_drewN | apply Kd.R_drew)); exact HO_6.out) (Kd.S_typed (by (with_reducible repeat (first | apply Kd.S_alloc | apply Kd.S_drewN | apply Kd.S_drew)); exact HO_5.out)) (by decide) hg); have n1_ := Aside0.mk (blk_grown (g := gb297) (o := .cells #[.string t291, .slice Ao18 t292.length co18] 30 (0, 0)) (by (with_reducible repeat (first | refine blk_drewN ?_ _ | refine blk_drew ?_ | refine blk_alloc ?_ _)); exact BK297.out) hg (Kd.S_away HO_5.out (fun _ hk => hk.2))); have n2_ := Aside0.mk (hb); have n3_ := Aside0.mk (ho); clear HO_6; clear BK297; clear HB; clear HO_5; clear HO294; have HO_6 := n0_; have BK297 := n1_; have HB := n2_; have HO300 := n3_; clear n0_ n1_ n2_ n3_; clear ho hb hg hat))
                  go_roundg k1
                  case measure => have := HK1.out; omega
                  case rel => exact ⟨(y298), (wrap64 (x7_1 + 1)), (by first | rfl | (simp; done) | (simp [*]; done)), H', ⟨by have := HK1.out; omega⟩, ⟨by (with_reducible repeat (first | apply Kd.S_alloc | apply Kd.S_drewN | apply Kd.S_drew)); exact Kd.S_mono HO300.out (fun _ hk => trivial)⟩, ⟨by (with_reducible repeat (first | apply Kd.R_alloc | apply Kd.R_drewN | apply Kd.R_drew)); exact HO_6.out⟩, ⟨by repeat (first | (with_reducible first | exact HB.out | apply below_alloc | apply pw_below_drewN | apply below_drew1 | refine below_set ?_ GE297.out) | exact HB.out)⟩⟩
                · rw [if_neg c12] at H
                  exact absurd H (by simp)
              · replace c11 := Bool.eq_false_iff.mpr c11
                subst c11
                have H1 : (inclineref21_Parse.l0 k1 x5_1 t287 (wrap64 (x7_1 + 1))) = some (r1, r2, r3) := by rw [if_neg (show ¬ (false = true) by decide)] at H; exact H
                clear H
                have H := H1
                clear H1
                have H' := Aside0.mk H
                clear H
                obtain ⟨Ao22, co22, eo22⟩ := Kd.R_slice HO_6.out
                subst eo22
                have p290 : 0 ≤ (x7_1 : Int) := of_decide_eq_true (by first | (with_reducible assumption) | assumption)
                have q290 : x7_1 < (t287.length : Int) := of_decide_eq_true (by first | (with_reducible assumption) | assumption)
                obtain ⟨ad290, e290, hx290_0⟩ := Kd.at_string (Kd.R_reads' HO_6.out).2.2 x7_1 p290 q290
                cases e290
                replace p290 := eq_true p290
                replace q290 := eq_true q290
                obtain ⟨Ao23, co23, eo23⟩ := Kd.S_slice HO_5.out
                subst eo23
                go_wp2_with (first | ((with_reducible refine gate_callee (f := 26) rfl ?_); refine goesL_ (some 30) rfl rfl Tryd.func26 (by kernel_rfl) rfl #[.string (rdOf ByteArray.empty t287 x7_1), .int .i64 (x5_1.length : Int)] rfl (by (try simp only [List.map_toArray, List.map_cons, List.map_nil]); first | done | rfl | (simp only [List.length_drop, List.length_take]; rfl)) ?_; (with_reducible refine (inclineref21_command.calls k1 (rdOf ByteArray.empty t287 x7_1) (x5_1.length : Int) t291 t292 false t296 _ A9.out).mono ?_); rintro e w24 ⟨v293, rfl, ho0, hb⟩; refine ⟨_, rfl, ?_⟩; have n0_ := Aside0.mk (Kd.S_elder' (by (with_reducible repeat (first | apply Kd.S_alloc | apply Kd.S_drewN | apply Kd.S_drew)); exact HO_5.out) (Kd.R_base ho0) hb); have n1_ := Aside0.mk (Kd.R_below (by (with_reducible repeat (first | apply Kd.R_alloc | apply Kd.R_drewN | apply Kd.R_drew)); exact HO_6.out) hb); have n2_ := Aside0.mk (Kd.R_lower ho0 (below_size (by repeat (first | (with_reducible first | exact HB.out | apply below_alloc | apply pw_below_drewN | apply below_drew1) | exact HB.out)))); have n3_ := Aside0.mk (below_step (by repeat (first | (with_reducible first | exact HB.out | apply below_alloc | apply pw_below_drewN | apply below_drew1) | exact HB.out)) hb); clear HO_5; clear HO_6; clear HB; have HO_5 := n0_; have HO_6 := n1_; have HO294 := n2_; have HB := n3_; clear n0_ n1_ n2_ n3_; (try clear hb); (try clear hb2); (try clear hk); (try clear hi); (try clear ho0)) | ((with_reducible refine gate_dst (N := 8) rfl ?_); refine box_event ?hg (N := 8) ?hd (cs := #[.string (⟨#[]⟩ : ByteArray), .slice none 0 0]) (t := 30) ?hr ?_; (case hd => rfl); (case hg => rfl); (case hr => first | (go_simp; done) | (go_simp; rfl)); intro gb297 hg w25 hbox hb; have n0_ := Aside0.mk (Kd.S_below (Kd.S_elderB (by (with_reducible repeat (first | apply Kd.S_alloc | apply Kd.S_drewN | apply Kd.S_drew)); exact HO_5.out) gb297 (Nat.le_of_eq hg.symm)) hb); have n1_ := Aside0.mk (Kd.R_below (by (with_reducible repeat (first | apply Kd.R_alloc | apply Kd.R_drewN | apply Kd.R_drew)); exact HO_6.out) hb); have n2_ := Aside0.mk (Kd.R_below (by (with_reducible repeat (first | apply Kd.R_alloc | apply Kd.R_drewN | apply Kd.R_drew)); exact HO294.out) hb); have n3_ := Aside0.mk (below_step (by repeat (first | (with_reducible first | exact HB.out | apply below_alloc | apply pw_below_drewN | apply below_drew1) | exact HB.out)) hb); have n4_ := Aside0.mk (hbox); have n5_ := Aside0.mk ((by rw [hg]; exact (below_size (by repeat (first | (with_reducible first | exact HB.out | apply below_alloc | apply pw_below_drewN | apply below_drew1) | exact HB.out))) : w.heap.size ≤ gb297)); have n6_ := Aside0.mk ((by rw [hg]; exact (below_size (by repeat (first | (with_reducible first | exact HB.out | apply below_alloc | apply pw_below_drewN | apply below_drew1) | exact HB.out))) : w.heap.size ≤ gb297)); clear HO_5; clear HO_6; clear HO294; clear HB; have HO_5 := n0_; have HO_6 := n1_; have HO294 := n2_; have HB := n3_; have BK297 := n4_; have GW297 := n5_; have GE297 := n6_; clear n0_ n1_ n2_ n3_ n4_ n5_ n6_; clear hb hbox hg; have hcz26_0 : w25.cell? ⟨gb297, 0, none⟩ = some (.string (⟨#[]⟩ : ByteArray)) := (blk_cell BK297.out 0).trans rfl; have hcz26_1 : w25.cell? ⟨gb297, 1, none⟩ = some (.slice none 0 0) := (blk_cell BK297.out 1).trans rfl; have hfz26_0 := blk_frozen BK297.out 0; have hfz26_1 := blk_frozen BK297.out 1; obtain ⟨Ao27, co27, eo27⟩ := Kd.R_slice HO294.out; subst eo27))
                go_roundg k1
                case measure => have := HK1.out; omega
                case rel => exact ⟨(x5_1), (wrap64 (x7_1 + 1)), (by first | rfl | (simp; done) | (simp [*]; done)), H', ⟨by have := HK1.out; omega⟩, ⟨by (with_reducible repeat (first | apply Kd.S_alloc | apply Kd.S_drewN | apply Kd.S_drew)); exact Kd.S_mono (Kd.S_far (p := ⟨gb297, 1, none⟩) (Kd.S_far (p := ⟨gb297, 0, none⟩) (Kd.S_mono HO_5.out (fun k_ hk => (⟨hk, hk.2⟩ : _ ∧ k_ ≠ gb297))) (fun _ hk => hk.2) (.string t291)) (fun _ hk => hk.2) (.slice Ao27 t292.length co27)) (fun _ hk => trivial)⟩, ⟨by (with_reducible repeat (first | apply Kd.R_alloc | apply Kd.R_drewN | apply Kd.R_drew)); exact Kd.R_mono (Kd.R_far (p := ⟨gb297, 1, none⟩) (Kd.R_far (p := ⟨gb297, 0, none⟩) (Kd.R_types HO_6.out BK297.out (by decide)) (fun _ hk => hk.2) (.string t291)) (fun _ hk => hk.2) (.slice Ao27 t292.length co27)) (fun _ hk => trivial)⟩, ⟨by repeat (first | (with_reducible first | exact HB.out | apply below_alloc | apply pw_below_drewN | apply below_drew1 | refine below_set ?_ GE297.out) | exact HB.out)⟩⟩
            · rw [if_neg c10] at H
              have c10b0 : (t296 == 0) = false := beq_eq_false_iff_ne.mpr c10
              have c10b1 : (t296 != 0) = true := bne_iff_ne.mpr c10
              simp only [Option.some.injEq, Prod.mk.injEq] at H
              obtain ⟨rfl, rfl, rfl⟩ := H
              obtain ⟨Ao28, co28, eo28⟩ := Kd.R_slice HO_6.out
              subst eo28
              have p290 : 0 ≤ (x7_1 : Int) := of_decide_eq_true (by first | (with_reducible assumption) | assumption)
              have q290 : x7_1 < (t287.length : Int) := of_decide_eq_true (by first | (with_reducible assumption) | assumption)
              obtain ⟨ad290, e290, hx290_0⟩ := Kd.at_string (Kd.R_reads' HO_6.out).2.2 x7_1 p290 q290
              cases e290
              replace p290 := eq_true p290
              replace q290 := eq_true q290
              obtain ⟨Ao29, co29, eo29⟩ := Kd.S_slice HO_5.out
              subst eo29
              go_wp2_with (first | ((with_reducible refine gate_callee (f := 26) rfl ?_); refine goesL_ (some 30) rfl rfl Tryd.func26 (by kernel_rfl) rfl #[.string (rdOf ByteArray.empty t287 x7_1), .int .i64 (x5_1.length : Int)] rfl (by (try simp only [List.map_toArray, List.map_cons, List.map_nil]); first | done | rfl | (simp only [List.length_drop, List.length_take]; rfl)) ?_; (with_reducible refine (inclineref21_command.calls k1 (rdOf ByteArray.empty t287 x7_1) (x5_1.length : Int) t291 t292 t295 t296 _ A9.out).mono ?_); rintro e w30 ⟨v293, rfl, ho0, hb⟩; refine ⟨_, rfl, ?_⟩; have n0_ := Aside0.mk (Kd.S_elder' (by (with_reducible repeat (first | apply Kd.S_alloc | apply Kd.S_drewN | apply Kd.S_drew)); exact HO_5.out) (Kd.R_base ho0) hb); have n1_ := Aside0.mk (Kd.R_below (by (with_reducible repeat (first | apply Kd.R_alloc | apply Kd.R_drewN | apply Kd.R_drew)); exact HO_6.out) hb); have n2_ := Aside0.mk (Kd.R_lower ho0 (below_size (by repeat (first | (with_reducible first | exact HB.out | apply below_alloc | apply pw_below_drewN | apply below_drew1) | exact HB.out)))); have n3_ := Aside0.mk (below_step (by repeat (first | (with_reducible first | exact HB.out | apply below_alloc | apply pw_below_drewN | apply below_drew1) | exact HB.out)) hb); clear HO_5; clear HO_6; clear HB; have HO_5 := n0_; have HO_6 := n1_; have HO294 := n2_; have HB := n3_; clear n0_ n1_ n2_ n3_; (try clear hb); (try clear hb2); (try clear hk); (try clear hi); (try clear ho0)) | ((with_reducible refine gate_dst (N := 8) rfl ?_); refine box_event ?hg (N := 8) ?hd (cs := #[.string (⟨#[]⟩ : ByteArray), .slice none 0 0]) (t := 30) ?hr ?_; (case hd => rfl); (case hg => rfl); (case hr => first | (go_simp; done) | (go_simp; rfl)); intro gb297 hg w31 hbox hb; have n0_ := Aside0.mk (Kd.S_below (Kd.S_elderB (by (with_reducible repeat (first | apply Kd.S_alloc | apply Kd.S_drewN | apply Kd.S_drew)); exact HO_5.out) gb297 (Nat.le_of_eq hg.symm)) hb); have n1_ := Aside0.mk (Kd.R_below (by (with_reducible repeat (first | apply Kd.R_alloc | apply Kd.R_drewN | apply Kd.R_drew)); exact HO_6.out) hb); have n2_ := Aside0.mk (Kd.R_below (by (with_reducible repeat (first | apply Kd.R_alloc | apply Kd.R_drewN | apply Kd.R_drew)); exact HO294.out) hb); have n3_ := Aside0.mk (below_step (by repeat (first | (with_reducible first | exact HB.out | apply below_alloc | apply pw_below_drewN | apply below_drew1) | exact HB.out)) hb); have n4_ := Aside0.mk (hbox); have n5_ := Aside0.mk ((by rw [hg]; exact (below_size (by repeat (first | (with_reducible first | exact HB.out | apply below_alloc | apply pw_below_drewN | apply below_drew1) | exact HB.out))) : w.heap.size ≤ gb297)); have n6_ := Aside0.mk ((by rw [hg]; exact (below_size (by repeat (first | (with_reducible first | exact HB.out | apply below_alloc | apply pw_below_drewN | apply below_drew1) | exact HB.out))) : w.heap.size ≤ gb297)); clear HO_5; clear HO_6; clear HO294; clear HB; have HO_5 := n0_; have HO_6 := n1_; have HO294 := n2_; have HB := n3_; have BK297 := n4_; have GW297 := n5_; have GE297 := n6_; clear n0_ n1_ n2_ n3_ n4_ n5_ n6_; clear hb hbox hg; have hcz32_0 : w31.cell? ⟨gb297, 0, none⟩ = some (.string (⟨#[]⟩ : ByteArray)) := (blk_cell BK297.out 0).trans rfl; have hcz32_1 : w31.cell? ⟨gb297, 1, none⟩ = some (.slice none 0 0) := (blk_cell BK297.out 1).trans rfl; have hfz32_0 := blk_frozen BK297.out 0; have hfz32_1 := blk_frozen BK297.out 1; obtain ⟨Ao33, co33, eo33⟩ := Kd.R_slice HO294.out; subst eo33))
              go_ret3
              exact ⟨_, by first | rfl | (simp [errW_none, errW_some] <;> rfl) | (simp [*, errW_none, errW_some] <;> rfl), by first | exact Kd.S_nil _ _ _ _ _ | exact Kd.N_nil _ _ _ _ _ | exact Kd.V_nil _ _ _ _ _ | exact Kd.Q_nil _ _ _ _ _ | exact Kd.R_nil _ _ _ _ _, by repeat (first | (with_reducible first | exact HB.out | apply below_alloc | apply pw_below_drewN | apply below_drew1 | refine below_set ?_ GE297.out) | exact HB.out)⟩
          · rw [if_neg c8] at H
            exact absurd H (by simp)
        · rw [if_neg c7] at H
          have c7b0 : decide (x7_1 < (t287.length : Int)) = false := decide_eq_false c7
          clear c7
          simp only [Option.some.injEq, Prod.mk.injEq] at H
          obtain ⟨rfl, rfl, rfl⟩ := H
          obtain ⟨Ao34, co34, eo34⟩ := Kd.R_slice HO_6.out
          subst eo34
          go_wp2
          go_ret3
          exact ⟨_, by first | rfl | (simp [errW_none, errW_some] <;> rfl) | (simp [*, errW_none, errW_some] <;> rfl), by (with_reducible repeat (first | apply Kd.S_alloc | apply Kd.S_drewN | apply Kd.S_drew)); exact HO_5.out, by repeat (first | (with_reducible first | exact HB.out | apply below_alloc | apply pw_below_drewN | apply below_drew1) | exact HB.out)⟩

end Go.Proofs.YtlfoaaeelcmhiaaDoor.G
end

section
/- Plain laws, on: the reference's Parse answers as script.Parse. -/
namespace Go.Proofs.YtlfoaaeelcmhiaaDoor.Pure
open Go.RowKit Go.Proofs.YtlfoaaeelcmhiaaDoor.G
open Go.Proofs.YtlfoaaeelcmhiaaDoorW.PrintWords hiding nums
set_option linter.unusedVariables false
set_option linter.unusedSimpArgs false
theorem byte_at (s : ByteArray) (i : Nat) (h : i < s.size) : ∃ b, (bl s)[i]? = some b ∧ bt s (i : Int) = (b.toNat : Int) := by
  refine ⟨s.get! i, get_bl s i h, ?_⟩
  have h0' : i < s.data.size := h
  unfold bt
  rw [dif_pos (show (i : Int).toNat < s.size from by rw [Int.toNat_natCast]; exact h)]
  simp only [Int.toNat_natCast]
  congr 2
  unfold ByteArray.get!
  exact (getElem!_pos s.data i h0').symm
theorem dropc (l : Bytes) (i : Nat) (b : UInt8) (h : l[i]? = some b) : l.drop i = b :: l.drop (i + 1) := by
  obtain ⟨hi, hb⟩ := List.getElem?_eq_some_iff.1 h
  rw [List.drop_eq_getElem_cons hi, hb]
def joinHead (cur : Bytes) : List Bytes → List Bytes
  | [] => []
  | p :: ps => (cur ++ p) :: ps
theorem ex_cut (s : ByteArray) (a i : Nat) : s.extract (a : Int).toNat (i : Int).toNat = mk (((bl s).drop a).take (i - a)) := by
  apply bl_inj
  rw [bl_extract, bl_mk, Int.toNat_natCast, Int.toNat_natCast]
theorem split_l0 (s : ByteArray) (c : UInt8) (hs : s.size ≤ 65536) : ∀ (d i a k : Nat) (acc : List ByteArray), s.size = i + d → a ≤ i → acc.length ≤ i → d + 2 ≤ k →
    inclineref21_split.l0 k s (c.toNat : Int) acc (a : Int) (i : Int) = some (acc ++ (joinHead (((bl s).drop a).take (i - a)) (splitL c ((bl s).drop i))).map mk) := by
  intro d
  induction d with
  | zero =>
    intro i a k acc h1 h2 h3 hk
    obtain ⟨k, rfl⟩ : ∃ m, k = m + 2 := ⟨k - 2, by omega⟩
    have hd : (bl s).drop i = [] := List.drop_eq_nil_of_le (by rw [bl_length]; omega)
    rw [hd]
    simp only [inclineref21_split.l0]
    rw [if_pos (by omega), if_pos (by omega), if_pos (by omega), if_pos (by omega), if_pos (by omega), w64 (by omega) (by omega), if_neg (by omega), ex_cut]
    simp [splitL, joinHead]
  | succ d ih =>
    intro i a k acc h1 h2 h3 hk
    obtain ⟨k, rfl⟩ : ∃ m, k = m + 1 := ⟨k - 1, by omega⟩
    obtain ⟨b, hb, hbt⟩ := byte_at s i (by omega)
    have e1 : (i : Int) + 1 = ((i + 1 : Nat) : Int) := rfl
    have hn := splitL_ne c ((bl s).drop (i + 1))
    simp only [inclineref21_split.l0]
    rw [if_pos (by omega), if_neg (by omega), if_pos (by omega), if_pos (by omega), hbt, w64 (by omega) (by omega), dropc _ i b hb, splitL_cons]
    by_cases hc : b = c
    · subst hc
      rw [if_pos rfl, if_pos (by omega), if_pos (by omega), if_pos (by omega), if_pos (by simp), ex_cut, e1, ih (i + 1) (i + 1) k _ (by omega) (by omega) (by rw [List.length_append]; simp only [List.length_cons, List.length_nil]; omega) (by omega)]
      rw [Nat.sub_self, List.take_zero]
      cases hs2 : splitL b ((bl s).drop (i + 1)) with
      | nil => exact absurd hs2 hn
      | cons p ps => simp [joinHead]
    · rw [if_neg (fun e => hc (UInt8.toNat_inj.1 (by omega))), if_neg (show ¬ (b == c) = true from by simpa using hc), e1, ih (i + 1) a k acc (by omega) (by omega) (by omega) (by omega)]
      have hcur : ((bl s).drop a).take (i + 1 - a) = ((bl s).drop a).take (i - a) ++ [b] := by
        rw [show i + 1 - a = (i - a) + 1 from by omega, List.take_add_one, List.getElem?_drop, show a + (i - a) = i from by omega, hb]
        rfl
      rw [hcur]
      cases hs2 : splitL c ((bl s).drop (i + 1)) with
      | nil => exact absurd hs2 hn
      | cons p ps => simp [joinHead]
theorem split_is (s : ByteArray) (c : UInt8) (hs : s.size ≤ 65536) (k : Nat) (hk : s.size + 2 ≤ k) : inclineref21_split.f k s (c.toNat : Int) = some ((splitL c (bl s)).map mk) := by
  unfold inclineref21_split.f
  have := split_l0 s c hs s.size 0 0 k [] (by omega) (by omega) (by simp) hk
  rw [show ((0 : Nat) : Int) = 0 from rfl] at this
  rw [this]
  simp only [List.drop_zero, Nat.sub_self, List.take_zero, List.nil_append]
  cases hs2 : splitL c (bl s) with
  | nil => exact absurd hs2 (splitL_ne c _)
  | cons p ps => simp [joinHead]
/-- The reference's number, of the bytes from number i on, n so far. -/
def numR : Bytes → Nat → Nat → Option Nat
  | [], _, n => some n
  | b :: l, i, n => if isDig b = true ∧ i ≤ 19 ∧ 10 * n + (b.toNat - 48) ≤ 18446744073709551615 then numR l (i + 1) (10 * n + (b.toNat - 48)) else none
theorem numR_sound (l : Bytes) : ∀ (i n r : Nat), n ≤ 18446744073709551615 → numR l i n = some r → r = val l n ∧ r ≤ 18446744073709551615 := by
  induction l with
  | nil => intro i n r hn h; simp only [numR, Option.some.injEq] at h; subst h; exact ⟨rfl, hn⟩
  | cons b l ih =>
    intro i n r hn h
    unfold numR at h
    split at h
    · next hc => exact ih _ _ _ hc.2.2 h
    · cases h
theorem numR_full (l : Bytes) : ∀ (i n : Nat), l.all isDig = true → i + l.length ≤ 20 → val l n ≤ 18446744073709551615 → numR l i n = some (val l n) := by
  induction l with
  | nil => intro i n _ _ _; rfl
  | cons b l ih =>
    intro i n hd hl hv
    rw [List.all_cons, Bool.and_eq_true] at hd
    simp only [List.length_cons] at hl
    have hg := val_ge l (10 * n + (b.toNat - 48))
    unfold numR
    rw [if_pos ⟨hd.1, by omega, by simp only [val] at hv; omega⟩]
    exact ih _ _ hd.2 (by omega) hv
theorem number_l0 (w : ByteArray) (hs : w.size ≤ 65536) : ∀ (d i n k : Nat), w.size = i + d → n ≤ 18446744073709551615 → 2 * d + 30 ≤ k →
    inclineref21_number.l0 k w (n : Int) (i : Int) = some (match numR ((bl w).drop i) i n with | some r => ((r : Int), decide (Lib.decDigits r = bl w)) | none => (0, false)) := by
  intro d
  induction d with
  | zero =>
    intro i n k h1 hn hk
    obtain ⟨k, rfl⟩ : ∃ m, k = m + 1 := ⟨k - 1, by omega⟩
    have hd : (bl w).drop i = [] := List.drop_eq_nil_of_le (by rw [bl_length]; omega)
    rw [hd]
    simp only [inclineref21_number.l0, numR]
    rw [if_neg (by omega), digits_f (n : Int) (by omega) (by omega) k (by omega), Option.bind_some, toList_bl, toList_bl, Int.toNat_natCast]
    have e : bl (dstr n) = Lib.decDigits n := by simp [bl, dstr]
    rw [e]
    by_cases h : Lib.decDigits n = bl w
    · rw [h]; simp
    · rw [beq_eq_false_iff_ne.2 h, decide_eq_false h]
  | succ d ih =>
    intro i n k h1 hn hk
    obtain ⟨k, rfl⟩ : ∃ m, k = m + 2 := ⟨k - 2, by omega⟩
    obtain ⟨b, hb, hbt⟩ := byte_at w i (by omega)
    have hb255 : b.toNat < 256 := b.toNat_lt
    have e1 : (i : Int) + 1 = ((i + 1 : Nat) : Int) := rfl
    rw [dropc _ i b hb]
    have bad : inclineref21_number.j1 (k + 1) w (n : Int) (i : Int) true = some (0, false) := by simp only [inclineref21_number.j1]; rw [if_pos trivial]
    simp only [inclineref21_number.l0]
    rw [if_pos (by omega), if_pos (by omega), hbt]
    unfold numR
    by_cases hd : isDig b = true
    · have hbd := isDig_bounds hd
      rw [if_neg (by omega), if_neg (by omega)]
      by_cases h19 : (i : Int) > 19
      · rw [decide_eq_true h19, bad, if_neg (by rintro ⟨_, h, _⟩; omega)]
      · rw [decide_eq_false h19]
        simp only [inclineref21_number.j1]
        have hm : (((b.toNat : Int) - 48) % 256) = ((b.toNat - 48 : Nat) : Int) := by omega
        rw [if_neg (by decide), if_pos (by omega), if_pos (by omega), hbt, hm]
        by_cases hov : (n : Int) > (18446744073709551615 - ((b.toNat - 48 : Nat) : Int)) / 10
        · rw [if_pos hov, if_neg (by rintro ⟨_, _, h⟩; omega)]
        · rw [if_neg hov, if_pos ⟨hd, by omega, by omega⟩, w64 (by omega) (by omega), u64w (i := 10 * (n : Int)) (by omega) (by omega), u64w (by omega) (by omega), e1]
          have := ih (i + 1) (10 * n + (b.toNat - 48)) k (by omega) (by omega) (by omega)
          rw [show ((10 * n + (b.toNat - 48) : Nat) : Int) = 10 * (n : Int) + ((b.toNat - 48 : Nat) : Int) from by omega] at this
          exact this
    · have hne : (b.toNat : Int) < 48 ∨ (b.toNat : Int) > 57 := by
        unfold isDig at hd
        simp only [Bool.and_eq_true, decide_eq_true_eq] at hd
        omega
      by_cases h48 : (b.toNat : Int) < 48
      · rw [if_pos h48, if_neg (fun h => hd h.1)]; exact bad
      · rw [if_neg h48, if_pos (hne.resolve_left h48), if_neg (fun h => hd h.1)]; exact bad
theorem refNumber_is (w : ByteArray) (hs : w.size ≤ 65536) (k : Nat) (hk : 2 * w.size + 30 ≤ k) : ∃ n, inclineref21_number.f k w = some (n, goodNum (bl w)) ∧ (goodNum (bl w) = true → n = numOf (bl w)) := by
  unfold inclineref21_number.f
  have h := number_l0 w hs w.size 0 0 k (by omega) (by omega) hk
  rw [List.drop_zero, show ((0 : Nat) : Int) = 0 from rfl] at h
  rw [h]
  by_cases hg : goodNum (bl w) = true
  · have hg' := hg
    unfold goodNum at hg'
    rw [Bool.and_eq_true, decide_eq_true_eq] at hg'
    have hdv := dec_numeral hg'.1
    have hlen : (bl w).length ≤ 20 := by
      rw [← hdv]
      have := dec_len (n := ((val (bl w) 0 : Nat) : Int)) ⟨by omega, by omega⟩
      rwa [Int.toNat_natCast] at this
    have hall : (bl w).all isDig = true := by rw [← hdv]; exact (dec_all _).1
    rw [numR_full (bl w) 0 0 hall (by omega) hg'.2]
    refine ⟨(val (bl w) 0 : Int), ?_, fun _ => rfl⟩
    simp only []
    rw [hdv, hg, decide_eq_true rfl]
  · rw [Bool.eq_false_iff.2 hg]
    cases hr : numR (bl w) 0 0 with
    | none => exact ⟨0, rfl, fun h => by cases h⟩
    | some r =>
      refine ⟨(r : Int), ?_, fun h => by cases h⟩
      simp only []
      congr 2
      refine decide_eq_false fun he => hg ?_
      obtain ⟨h1, h2⟩ := numR_sound (bl w) 0 0 r (by omega) hr
      unfold goodNum
      rw [← h1, ← he, numeral_dec, Bool.true_and, decide_eq_true_eq]
      exact h2
/-- The words that are not empty are gathered. -/
theorem gather_l0 (ps : List Bytes) (hps : ps.length ≤ 65537) (ahead : Int) : ∀ (d i k : Nat) (acc : List Bytes), ps.length = i + d → acc.length ≤ i → d < k →
    inclineref21_command.l0 k ahead (ps.map mk) (acc.map mk) (i : Int) = inclineref21_command.l0 (k - d) ahead (ps.map mk) ((acc ++ (ps.drop i).filter (· ≠ [])).map mk) (ps.length : Int) := by
  intro d
  induction d with
  | zero =>
    intro i k acc h1 h2 hk
    have hi : i = ps.length := by omega
    subst hi
    rw [List.drop_length]
    simp
  | succ d ih =>
    intro i k acc h1 h2 hk
    obtain ⟨k, rfl⟩ : ∃ m, k = m + 1 := ⟨k - 1, by omega⟩
    have hi : i < ps.length := by omega
    have hrd : rdOf ByteArray.empty (ps.map mk) (i : Int) = mk ps[i] := by rw [rdOf_get _ _ i (by rw [List.length_map]; exact hi), List.getElem_map]
    have e1 : (i : Int) + 1 = ((i + 1 : Nat) : Int) := rfl
    conv => lhs; simp only [inclineref21_command.l0]
    rw [if_pos (by rw [List.length_map]; omega), if_pos (by omega), hrd, toList_bl, bl_mk, w64 (by omega) (by omega), e1, List.drop_eq_getElem_cons hi, show k + 1 - (d + 1) = k - d from by omega]
    by_cases h : ps[i] = []
    · rw [if_pos h, ih (i + 1) k acc (by omega) (by omega) (by omega), List.filter_cons, if_neg (by simpa using h)]
    · rw [if_neg h, if_pos (by rw [List.length_map]; omega)]
      have ea : acc.map mk ++ [mk ps[i]] = (acc ++ [ps[i]]).map mk := by simp
      rw [ea, ih (i + 1) k (acc ++ [ps[i]]) (by omega) (by rw [List.length_append]; simp only [List.length_cons, List.length_nil]; omega) (by omega), List.filter_cons, if_pos (by simpa using h)]
      simp
theorem nums_l1 (w : Bytes) (args : List Bytes) (hs : ∀ a ∈ args, a.length ≤ 65536) (hn : args.length ≤ 65537) : ∀ (d i k : Nat) (acc : List Int), args.length = i + d → acc.length ≤ i → 131110 + d ≤ k →
    inclineref21_command.l1 k ((w :: args).map mk) ((i + 1 : Nat) : Int) (mk w) acc = some (if (args.drop i).all goodNum = true then (mk w, acc ++ (args.drop i).map numOf, true, 0) else (⟨#[]⟩, [], true, 212)) := by
  intro d
  induction d with
  | zero =>
    intro i k acc h1 h2 hk
    obtain ⟨k, rfl⟩ : ∃ m, k = m + 1 := ⟨k - 1, by omega⟩
    have hi : i = args.length := by omega
    subst hi
    simp only [inclineref21_command.l1]
    rw [if_neg (by rw [List.length_map, List.length_cons]; omega), List.drop_length]
    simp
  | succ d ih =>
    intro i k acc h1 h2 hk
    obtain ⟨k, rfl⟩ : ∃ m, k = m + 1 := ⟨k - 1, by omega⟩
    have hi : i < args.length := by omega
    have hrd : rdOf ByteArray.empty ((w :: args).map mk) ((i + 1 : Nat) : Int) = mk args[i] := by
      rw [rdOf_get _ _ (i + 1) (by rw [List.length_map, List.length_cons]; omega), List.getElem_map]
      rfl
    have hl := hs _ (List.getElem_mem hi)
    obtain ⟨n, hn1, hn2⟩ := refNumber_is (mk args[i]) (by rw [← bl_length, bl_mk]; exact hl) k (by rw [← bl_length, bl_mk]; omega)
    rw [bl_mk] at hn1 hn2
    have e1 : ((i + 1 : Nat) : Int) + 1 = ((i + 1 + 1 : Nat) : Int) := rfl
    simp only [inclineref21_command.l1]
    rw [if_pos (by rw [List.length_map, List.length_cons]; omega), if_pos (by omega), hrd, hn1, Option.bind_some, List.drop_eq_getElem_cons hi]
    simp only []
    by_cases hg : goodNum args[i] = true
    · rw [if_pos hg, if_pos (by omega), w64 (by omega) (by omega), e1, ih (i + 1) k (acc ++ [n]) (by omega) (by rw [List.length_append]; simp only [List.length_cons, List.length_nil]; omega) (by omega), hn2 hg]
      by_cases hr : (args.drop (i + 1)).all goodNum = true
      · rw [if_pos hr, if_pos (by rw [List.all_cons, hg, hr]; rfl), List.map_cons, List.append_assoc]
        rfl
      · rw [if_neg hr, if_neg (by rw [List.all_cons, hg, Bool.true_and]; exact hr)]
    · rw [if_neg hg, if_neg (by rw [List.all_cons, Bool.eq_false_iff.2 hg]; simp)]
theorem refCommand_is (p : ByteArray) (hp : p.size ≤ 65536) (ahead : Int) (k : Nat) (hk : 300000 ≤ k) :
    inclineref21_command.f k p ahead = some (if lineWords (bl p) = [] ∨ isNote (lineWords (bl p)) = true then (⟨#[]⟩, [], false, 0) else if ahead ≥ 4096 then (⟨#[]⟩, [], true, 210) else (mk (cmdSpec (lineWords (bl p))).1, (cmdSpec (lineWords (bl p))).2.1, true, (cmdSpec (lineWords (bl p))).2.2)) := by
  have hsp := splitL_mem 32 (bl p)
  rw [bl_length] at hsp
  unfold inclineref21_command.f
  have hspl := split_is p 32 hp k (by omega)
  rw [show ((32 : UInt8).toNat : Int) = 32 from rfl] at hspl
  rw [hspl, Option.bind_some]
  have hg := gather_l0 (splitL 32 (bl p)) (by omega) ahead (splitL 32 (bl p)).length 0 k [] (by omega) (by simp) (by omega)
  rw [List.drop_zero, List.nil_append, show ((0 : Nat) : Int) = 0 from rfl, List.map_nil] at hg
  rw [hg]
  have hwm : ∀ x ∈ (splitL 32 (bl p)).filter (· ≠ []), x ≠ [] ∧ x.length ≤ 65536 := fun x hx => by
    rw [List.mem_filter] at hx
    exact ⟨by simpa using hx.2, by have := hsp.1 x hx.1; omega⟩
  have hwl : ((splitL 32 (bl p)).filter (· ≠ [])).length ≤ 65537 := Nat.le_trans (List.length_filter_le _ _) (by omega)
  show _ = some (if lineWords (bl p) = [] ∨ _ then _ else _)
  unfold lineWords
  obtain ⟨k2, hk2⟩ : ∃ k2, k - (splitL 32 (bl p)).length = k2 + 2 := ⟨k - (splitL 32 (bl p)).length - 2, by omega⟩
  rw [hk2]
  have hk3 : 200000 ≤ k2 := by omega
  clear hg hspl hk2
  generalize (splitL 32 (bl p)).filter (· ≠ []) = ws at *
  rw [inclineref21_command.l0, if_neg (by rw [List.length_map]; omega)]
  cases ws with
  | nil =>
    rw [if_pos (by rfl), inclineref21_command.j1, if_pos rfl, if_pos (.inl rfl)]
  | cons w args =>
    have hw := hwm w List.mem_cons_self
    have hpos : 0 < w.length := List.length_pos_iff.2 hw.1
    have hrd : rdOf ByteArray.empty ((w :: args).map mk) 0 = mk w := rdOf_get ByteArray.empty ((w :: args).map mk) 0 (by simp)
    have hsz : (mk w).size = w.length := by rw [← bl_length, bl_mk]
    simp only [List.length_cons] at hwl
    rw [if_neg (by rw [List.length_map, List.length_cons]; omega), if_pos (by rw [List.length_map, List.length_cons]; omega), hrd, if_pos (by rw [hsz]; omega)]
    have hnote : (bt (mk w) 0 == 35) = isNote (w :: args) := by
      obtain ⟨b, hb, hbt⟩ := byte_at (mk w) 0 (by rw [hsz]; exact hpos)
      rw [bl_mk] at hb
      rw [show ((0 : Nat) : Int) = 0 from rfl] at hbt
      rw [hbt]
      cases w with
      | nil => cases hb
      | cons c t =>
        have hc : c = b := by simpa using hb
        subst hc
        by_cases h35 : c = 35
        · subst h35; rfl
        · have h1 : ((c.toNat : Int) == 35) = false := beq_eq_false_iff_ne.2 (fun e => h35 (UInt8.toNat_inj.1 (show c.toNat = 35 from by omega)))
          rw [h1]
          unfold isNote
          split
          · next h2 => injection h2 with h2 _; injection h2 with h2 _; exact absurd h2 h35
          · rfl
    rw [hnote, inclineref21_command.j1]
    by_cases hno : isNote (w :: args) = true
    · rw [if_pos hno, if_pos (show w :: args = [] ∨ isNote (w :: args) = true from .inr hno)]
    · rw [if_neg hno, if_neg (show ¬ (w :: args = [] ∨ isNote (w :: args) = true) from fun h => h.elim (fun h => by cases h) hno)]
      by_cases ha : ahead ≥ 4096
      · rw [if_pos ha, if_pos ha]
      · rw [if_neg ha, if_neg ha, if_pos (by rw [List.length_map, List.length_cons]; omega), hrd, refTakes_is _ (by omega), bl_mk, Option.bind_some]
        have hr := takesL_range w
        simp only [cmdSpec]
        by_cases ht : takesL w = -1
        · rw [if_pos (by omega), if_pos ht]
          rfl
        · rw [if_neg (by omega), if_neg ht, Option.bind_some, List.length_map, List.length_cons, w64 (by omega) (by omega)]
          by_cases hn : (args.length : Int) ≠ takesL w
          · rw [if_neg (by omega), if_pos hn]
            rfl
          · rw [if_pos (by omega), if_neg hn]
            have := nums_l1 w args (fun a ha => (hwm a (List.mem_cons_of_mem _ ha)).2) (by omega) args.length 0 k2 [] (by omega) (by simp) (by omega)
            rw [List.drop_zero, show ((0 + 1 : Nat) : Int) = 1 from rfl] at this
            rw [this]
            by_cases hgd : args.all goodNum = true
            · rw [if_pos hgd, if_pos hgd]
              simp
            · rw [if_neg hgd, if_neg hgd]
              rfl
theorem ref_parse_l0 (ps : List ByteArray) (hs : ∀ p ∈ ps, p.size ≤ 65536) (hn : ps.length ≤ 65537) : ∀ (d i k : Nat) (l : List Cmd), ps.length = i + d → l.length ≤ 4096 → 300000 + d ≤ k →
    inclineref21_Parse.l0 k (l.map toS) ps (i : Int) = some ((parseS ((ps.drop i).map bl) l (i : Int)).1.map toS, (parseS ((ps.drop i).map bl) l (i : Int)).2.1, (parseS ((ps.drop i).map bl) l (i : Int)).2.2) := by
  intro d
  induction d with
  | zero =>
    intro i k l h1 hl hk
    obtain ⟨k, rfl⟩ : ∃ m, k = m + 1 := ⟨k - 1, by omega⟩
    have hi : i = ps.length := by omega
    subst hi
    rw [List.drop_length]
    simp only [inclineref21_Parse.l0, List.map_nil, parseS]
    rw [if_neg (by omega)]
  | succ d ih =>
    intro i k l h1 hl hk
    obtain ⟨k, rfl⟩ : ∃ m, k = m + 1 := ⟨k - 1, by omega⟩
    have hi : i < ps.length := by omega
    have hp := hs _ (List.getElem_mem hi)
    have e1 : (i : Int) + 1 = ((i + 1 : Nat) : Int) := rfl
    rw [List.drop_eq_getElem_cons hi, List.map_cons]
    simp only [inclineref21_Parse.l0, parseS]
    rw [if_pos (by omega), if_pos (by omega), rdOf_get _ _ i hi, refCommand_is ps[i] hp _ k (by omega), Option.bind_some, List.length_map]
    by_cases h0 : lineWords (bl ps[i]) = []
    · rw [if_pos (show lineWords (bl ps[i]) = [] ∨ isNote (lineWords (bl ps[i])) = true from .inl h0), if_pos h0]
      simp only []
      rw [if_pos trivial, if_neg (by decide), w64 (by omega) (by omega), e1]
      exact ih (i + 1) k l (by omega) hl (by omega)
    · by_cases h1' : isNote (lineWords (bl ps[i])) = true
      · rw [if_pos (show lineWords (bl ps[i]) = [] ∨ isNote (lineWords (bl ps[i])) = true from .inr h1'), if_neg h0, if_pos h1']
        simp only []
        rw [if_pos trivial, if_neg (by decide), w64 (by omega) (by omega), e1]
        exact ih (i + 1) k l (by omega) hl (by omega)
      · rw [if_neg (show ¬ (lineWords (bl ps[i]) = [] ∨ isNote (lineWords (bl ps[i])) = true) from fun h => h.elim h0 h1'), if_neg h0, if_neg h1']
        by_cases h4 : l.length = 4096
        · rw [if_pos (show (l.length : Int) ≥ 4096 from by omega), if_pos h4]
          simp only []
          rw [if_neg (by omega), w64 (by omega) (by omega)]
          rfl
        · rw [if_neg (show ¬ (l.length : Int) ≥ 4096 from by omega), if_neg h4]
          simp only []
          by_cases he : (cmdSpec (lineWords (bl ps[i]))).2.2 = 0
          · rw [if_pos he, if_pos trivial, if_pos he, if_pos (by omega), w64 (by omega) (by omega), e1]
            have := ih (i + 1) k (l ++ [((cmdSpec (lineWords (bl ps[i]))).1, (cmdSpec (lineWords (bl ps[i]))).2.1)]) (by omega) (by rw [List.length_append]; simp only [List.length_cons, List.length_nil]; omega) (by omega)
            rw [List.map_append] at this
            exact this
          · rw [if_neg he, if_neg he, w64 (by omega) (by omega)]
            rfl
/-- The reference's Parse. -/
theorem refParse_is (a : ByteArray) (k : Nat) (hk : 400000 ≤ k) : inclineref21_Parse.f k a = some ((parseT (bl a)).1.map toS, (parseT (bl a)).2.1, (parseT (bl a)).2.2) := by
  unfold inclineref21_Parse.f parseT
  rw [bl_length]
  by_cases h : 65536 < a.size
  · rw [if_pos (by omega), if_pos h]
    rfl
  · rw [if_neg (by omega), if_neg h]
    have hsp := splitL_mem 10 (bl a)
    rw [bl_length] at hsp
    have hspl := split_is a 10 (by omega) k (by omega)
    rw [show ((10 : UInt8).toNat : Int) = 10 from rfl] at hspl
    rw [hspl, Option.bind_some]
    have := ref_parse_l0 ((splitL 10 (bl a)).map mk) (fun p hp => by
      obtain ⟨q, hq, rfl⟩ := List.mem_map.1 hp
      rw [← bl_length, bl_mk]
      have := hsp.1 q hq
      omega) (by rw [List.length_map]; omega) (splitL 10 (bl a)).length 0 k [] (by rw [List.length_map]; omega) (by simp) (by omega)
    have em : ((splitL 10 (bl a)).map mk).map bl = splitL 10 (bl a) := by
      rw [List.map_map, show bl ∘ mk = id from funext bl_mk, List.map_id]
    rw [List.drop_zero, em] at this
    exact this
end Go.Proofs.YtlfoaaeelcmhiaaDoor.Pure
end

section
/- What ScriptParses writes into the commands that it was handed: their rows lie apart, and lead to nothing else. -/
namespace Go.Proofs.YtlfoaaeelcmhiaaDoor
open Go.RowKit Go.Deep G
open Go.Proofs.YtlfoaaeelcmhiaaDoorW.PrintWords
set_option linter.unusedVariables false
structure PInv (w1 w2 w3 : World) (g : Nat) (f : Nat → Nat) (L : List S30) (vals : Nat → Value) (i : Int) (W : World) : Prop where
  outer : 0 < L.length → ∃ arr : Array Value, W.heap[g]? = some (.cells arr 30 (0, 0)) ∧ ∀ j, j < L.length → (∃ s : ByteArray, arr[j * 2]? = some (.string s)) ∧ arr[j * 2 + 1]? = some (vals j)
  inner : ∀ j : Nat, i ≤ (j : Int) → j < L.length → ∃ ns : List Int, ns.length = (L.getD j z30).f1.length ∧ Kd.R (Kd.int .u64) 31 W w1.heap.size (fun k => (k ≠ g ∧ w1.heap.size ≤ k ∧ k < w2.heap.size) ∧ f k = j) (vals j) ns
  want : ∀ k, w2.heap.size ≤ k → k < w3.heap.size → W.heap[k]? = w3.heap[k]?
  size : w3.heap.size ≤ W.heap.size
  le : w1.heap.size ≤ w2.heap.size
variable {w1 w2 w3 W W' : World} {g : Nat} {f : Nat → Nat} {L : List S30} {vals : Nat → Value} {i : Int}
theorem PInv.below (h : PInv w1 w2 w3 g f L vals i W) (hb : Below W.heap.size W W') : PInv w1 w2 w3 g f L vals i W' := by
  refine ⟨fun hp => ?_, fun j h1 h2 => ?_, fun k h1 h2 => ?_, Nat.le_trans h.size hb.size, h.le⟩
  · obtain ⟨arr, ha, hj⟩ := h.outer hp
    exact ⟨arr, (hb.block g (blk_lt ha)).trans ha, hj⟩
  · obtain ⟨ns, hn, hR⟩ := h.inner j h1 h2
    exact ⟨ns, hn, Kd.R_below hR hb⟩
  · exact (hb.block k (Nat.lt_of_lt_of_le h2 h.size)).trans (h.want k h1 h2)
/-- A number of a row is written. -/
theorem PInv.put (h : PInv w1 w2 w3 g f L vals i W) {j0 : Nat} (h1 : i ≤ (j0 : Int)) (h2 : j0 < L.length) {b m c : Nat} (hv : vals j0 = .slice (some ⟨b, 0, none⟩) m c) (kk : Int) (x : Int) : PInv w1 w2 w3 g f L vals i (W.setCell ⟨b, kk.toNat, none⟩ (.int .u64 x)) := by
  obtain ⟨ns0, hn0, hR0⟩ := h.inner j0 h1 h2
  have hob := hR0.1 b (by rw [hv]; simp [Value.ownBlock])
  have hg : g ≠ b := fun e => hob.1.1 e.symm
  refine ⟨fun hp => ?_, fun j k1 k2 => ?_, fun k k1 k2 => ?_, by simpa [World.setCell] using h.size, h.le⟩
  · obtain ⟨arr, ha, hj⟩ := h.outer hp
    exact ⟨arr, blk_far ha hg _, hj⟩
  · obtain ⟨ns, hn, hR⟩ := h.inner j k1 k2
    by_cases e : j = j0
    · subst e
      rw [hv] at hR
      refine ⟨ns.set kk.toNat x, by rw [List.length_set]; exact hn, ?_⟩
      have := (Kd.R_putg hR kk x).1
      rw [hv]
      exact this
    · refine ⟨ns, hn, Kd.R_far hR (p := ⟨b, kk.toNat, none⟩) (fun k hk => ?_) _⟩
      intro e2
      have h3 : f k = j := hk.2
      rw [show k = b from e2] at h3
      exact e (h3.symm.trans hob.2)
  · have hne : k ≠ b := by have := hob.1.2.2; omega
    exact (Below.heap_setCell W ⟨b, kk.toNat, none⟩ _ k hne).trans (h.want k k1 k2)
/-- A row has been appended to. -/
theorem PInv.grown (h : PInv w1 w2 w3 g f L vals i W) {j0 : Nat} (h1 : i = (j0 : Int)) (h2 : j0 < L.length) (hg : W.grownBy W' (vals j0).ownBlock) : PInv w1 w2 w3 g f L vals (i + 1) W' := by
  obtain ⟨ns0, hn0, hR0⟩ := h.inner j0 (by omega) h2
  refine ⟨fun hp => ?_, fun j k1 k2 => ?_, fun k k1 k2 => ?_, Nat.le_trans h.size hg.size, h.le⟩
  · obtain ⟨arr, ha, hj⟩ := h.outer hp
    refine ⟨arr, (hg.block g (blk_lt ha) (fun e => ?_)).trans ha, hj⟩
    exact (hR0.1 g e.symm).1.1 rfl
  · obtain ⟨ns, hn, hR⟩ := h.inner j (by omega) k2
    refine ⟨ns, hn, Kd.R_grown hR hg (fun k hk e => ?_)⟩
    have h3 : f k = j := hk.2
    have h4 : f k = j0 := (hR0.1 k e.symm).2
    omega
  · refine (hg.block k (Nat.lt_of_lt_of_le k2 h.size) (fun e => ?_)).trans (h.want k k1 k2)
    have := (hR0.1 k e.symm).1.2.2
    omega
/-- A word is written. -/
theorem PInv.word (h : PInv w1 w2 w3 g f L vals i W) (hg2 : g < w2.heap.size) {j0 : Nat} (h2 : j0 < L.length) (s : ByteArray) : PInv w1 w2 w3 g f L vals i (W.setCell ⟨g, j0 * 2, none⟩ (.string s)) := by
  refine ⟨fun hp => ?_, fun j k1 k2 => ?_, fun k k1 k2 => ?_, by simpa [World.setCell] using h.size, h.le⟩
  · obtain ⟨arr, ha, hj⟩ := h.outer hp
    refine ⟨arr.setIfInBounds (j0 * 2) (.string s), blk_put ha (j0 * 2) (.string s) rfl, fun j hjl => ?_⟩
    obtain ⟨⟨s1, hs1⟩, hv1⟩ := hj j hjl
    refine ⟨?_, by rw [Array.getElem?_setIfInBounds_ne (by omega)]; exact hv1⟩
    by_cases e : j = j0
    · subst e
      have := (Array.getElem?_eq_some_iff.1 hs1).1
      exact ⟨s, by rw [Array.getElem?_setIfInBounds_self_of_lt this]⟩
    · exact ⟨s1, by rw [Array.getElem?_setIfInBounds_ne (by omega)]; exact hs1⟩
  · obtain ⟨ns, hn, hR⟩ := h.inner j k1 k2
    exact ⟨ns, hn, Kd.R_far hR (p := ⟨g, j0 * 2, none⟩) (fun k hk => hk.1.1) _⟩
  · exact (Below.heap_setCell W ⟨g, j0 * 2, none⟩ _ k (by show k ≠ g; omega)).trans (h.want k k1 k2)
theorem PInv.start {Aa : Option Addr} {ca : Nat} (h : Kd.S k30 30 w2 w1.heap.size (fun _ => True) (.slice Aa L.length ca) L) (hle : w1.heap.size ≤ w2.heap.size) (hb : Below w2.heap.size w2 w3) :
    ∃ (g : Nat) (f : Nat → Nat) (vals : Nat → Value), (0 < L.length → Aa = some ⟨g, 0, none⟩) ∧ (0 < L.length → w1.heap.size ≤ g ∧ g < w2.heap.size) ∧ PInv w1 w2 w3 g f L vals 0 w3 := by
  by_cases hp : 0 < L.length
  · obtain ⟨f, hf⟩ := Kd.S_below (Kd.S_bound h) hb
    obtain ⟨g, cap, e, hbg, hlt, arr, harr⟩ := Kd.R_form hf (by rw [List.length_zipIdx]; exact hp)
    injection e with e1 e2 e3
    subst e1
    have hok := hf.1 g (by simp [Value.ownBlock])
    have hel : ∀ j, j < L.length → ∃ v : Value, ((∃ s : ByteArray, arr[j * 2]? = some (.string s)) ∧ arr[j * 2 + 1]? = some v) ∧ Kd.R (Kd.int .u64) 31 w3 w1.heap.size (fun k => (k ≠ g ∧ w1.heap.size ≤ k ∧ k < w2.heap.size) ∧ f k = j) v (L.getD j z30).f1 := by
      intro j hj
      obtain ⟨c, hcl, hM, hcc, _⟩ := Kd.R_elem hf (z30, 0) (j : Int) (by omega) (by omega)
      have hx : L.zipIdx.getD (j : Int).toNat (z30, 0) = (L.getD j z30, j) := by
        rw [Int.toNat_natCast, List.getD_eq_getElem?_getD, List.getElem?_zipIdx, List.getD_eq_getElem?_getD, List.getElem?_eq_getElem hj]
        simp
      rw [hx] at hM
      rw [Int.toNat_natCast] at hcc
      obtain ⟨v, hc, hR⟩ := k30_openM (show k30.M w3 w1.heap.size _ (L.getD j z30) c from hM)
      have h0 := hcc 0 (.string (L.getD j z30).f0) (by rw [hc]; rfl)
      have h1 := hcc 1 v (by rw [hc]; rfl)
      have hsz : (Kd.tag f k30).sz = 2 := rfl
      rw [hsz] at h0 h1
      rw [blk_cell harr] at h0 h1
      exact ⟨v, ⟨⟨_, h0⟩, h1⟩, Kd.R_mono hR (fun k hk => ⟨⟨hk.1.2, hk.1.1.2.1, hk.1.1.2.2.1⟩, hk.2⟩)⟩
    obtain ⟨vals, hv⟩ := choose_lt hel
    exact ⟨g, f, vals, fun _ => rfl, fun _ => ⟨hok.2.1, hok.2.2.1⟩, ⟨fun _ => ⟨arr, harr, fun j hj => (hv j hj).1⟩, fun j _ hj => ⟨_, rfl, (hv j hj).2⟩, fun _ _ _ => rfl, Nat.le_refl _, hle⟩⟩
  · exact ⟨0, fun _ => 0, fun _ => .slice none 0 0, fun h => absurd h hp, fun h => absurd h hp, ⟨fun h => absurd h hp, fun j _ hj => absurd hj (by omega), fun _ _ _ => rfl, Nat.le_refl _, hle⟩⟩
theorem PInv.lit (h : PInv w1 w2 w3 g f L vals i W) (hg : W.grownBy W' none) : PInv w1 w2 w3 g f L vals i W' :=
  h.below ⟨hg.os, hg.tape, hg.output, hg.size, fun k hk => hg.block k hk (by simp)⟩
theorem R_sl {w : World} {base : Nat} {ok : Nat → Prop} {A : Option Addr} {n c : Nat} {xs : List Int} (h : Kd.R (Kd.int .u64) 31 w base ok (.slice A n c) xs) : n = xs.length ∧ xs.length ≤ c ∧ Kd.C (Kd.int .u64) w A xs.length xs := by
  obtain ⟨h1, h2, h3⟩ := Kd.R_reads' h
  exact ⟨h1, by omega, h3⟩
theorem PInv.nums (h : PInv w1 w2 w3 g f L vals i W) {j0 : Nat} (h2 : j0 < L.length) : W.cell? ⟨g, j0 * 2 + 1, none⟩ = some (vals j0) := by
  obtain ⟨arr, ha, hj⟩ := h.outer (by omega)
  rw [blk_cell ha]
  exact (hj j0 h2).2
theorem PInv.wcell (h : PInv w1 w2 w3 g f L vals i W) {j0 : Nat} (h2 : j0 < L.length) : (∃ s : ByteArray, W.cell? ⟨g, j0 * 2, none⟩ = some (.string s)) ∧ W.frozen? ⟨g, j0 * 2, none⟩ = false := by
  obtain ⟨arr, ha, hj⟩ := h.outer (by omega)
  rw [blk_cell ha]
  exact ⟨(hj j0 h2).1, blk_frozen ha _⟩
theorem more_read {w6 : World} {base m : Nat} {ok : Nat → Prop} {v6 : Value} {ns : List Int} (ho : Kd.R (Kd.int .u64) 31 w6 base ok v6 (ns ++ [8])) (hm : ns.length = m) : ∃ b c, v6 = .slice (some ⟨b, 0, none⟩) (m + 1) c ∧ w6.cell? ⟨b, m, none⟩ = some (.int .u64 8) := by
  obtain ⟨b, c, e, _⟩ := Kd.R_form ho (by simp)
  have hl : (ns ++ [(8 : Int)]).length = m + 1 := by simp [hm]
  rw [hl] at e
  refine ⟨b, c, e, ?_⟩
  rw [e] at ho
  have := (Kd.R_celln 0 ho (m : Int) (by omega) (by omega)).1
  rw [Int.toNat_natCast] at this
  rw [this]
  subst hm
  simp [rdOf]
/-- What was wanted is as it was. -/
theorem PInv.still (h : PInv w1 w2 w3 g f L vals i W) {v : Value} (hS : Kd.S k30 30 w3 w2.heap.size (fun _ => True) v L) : Kd.S k30 30 W w2.heap.size (fun _ => True) v L :=
  Kd.S_mono (Kd.S_move (Kd.S_bound hS) (fun k hk => h.want k hk.2.1 hk.2.2.1)) (fun _ _ => trivial)
end Go.Proofs.YtlfoaaeelcmhiaaDoor
end

section
/- ScriptParses: its walk. -/
namespace Go.Proofs.YtlfoaaeelcmhiaaDoor
open Go.RowKit Go.Proofs.YtlfoaaeelcmhiaaDoor.Reading G Go.Proofs.YtlfoaaeelcmhiaaDoorW.PrintLast Go.Proofs.YtlfoaaeelcmhiaaDoorW.PrintMore
open Go.Proofs.YtlfoaaeelcmhiaaDoorW.PrintWords hiding nums
set_option linter.unusedVariables false
theorem Pure.parses_facts (a : ByteArray) : ∃ (k : Nat) (L : List S30) (at_ e : Int), inclinelaw21_shown.f k = some true ∧ script_Parse.f a = some (L, at_, e) ∧ inclineref21_Parse.f k a = some (L, at_, e) ∧ inclinelaw21_same.f k L L = some true ∧ L.length ≤ 4096 ∧ ∀ c ∈ L, c.f1.length ≤ 3 := by
  obtain ⟨K, hK⟩ := shown_is
  have sp := parseT_spec (bl a)
  obtain ⟨⟨cs, at_, e⟩, hp⟩ : ∃ p, parseT (bl a) = p := ⟨_, rfl⟩
  rw [hp] at sp
  simp only [] at sp
  have hok : (∀ c ∈ cs, cmdOK c) ∧ cs.length ≤ 4096 := by
    by_cases he : e = 0
    · exact ⟨(sp.1 he).2.1, (sp.1 he).2.2.1⟩
    · rw [(sp.2 he).1]; exact ⟨fun c hc => (by cases hc), by simp⟩
  obtain ⟨K2, hK2⟩ := same_cmds cs hok.1 hok.2
  refine ⟨K + 400000 + K2, cs.map toS, at_, e, hK _ (by omega), by rw [parse_is, hp], by rw [refParse_is a _ (by omega), hp], hK2 _ (by omega), by rw [List.length_map]; exact hok.2, fun c hc => ?_⟩
  obtain ⟨d, hd, rfl⟩ := List.mem_map.1 hc
  have h1 := (hok.1 d hd).2.1
  have h2 := (takesL_range d.1).2
  show d.2.length ≤ 3
  omega
set_option maxHeartbeats 4000000 in
set_option maxRecDepth 100000 in
theorem Walks.ScriptParses {w : World} (hT : Tabs w) (a0 : ByteArray) (hs0 : a0.size ≤ reach) : Calls Tryd.prog 3 #[.string a0] w fun e w' => e = .returned (.bool true) ∧ Below w.heap.size w w' := by
  obtain ⟨k, L, at_, e, hK, hP, hR, hS, hn, h3⟩ := Pure.parses_facts a0
  have HK := Aside0.mk hK
  have HP := Aside0.mk hP
  have HR := Aside0.mk hR
  have HS := Aside0.mk hS
  have HT := Aside0.mk hT
  have HN := Aside0.mk hn
  have H3 := Aside0.mk h3
  clear hK hP hR hS hT hn h3
  go_enter Tryd.func3, Tryd.ntmps3
  go_wp2_with (first
    | (go_at_call 11; refine (inclinelaw21_shown.calls k true _ HT.out HK.out).mono ?_; rintro e w1 ⟨rfl, hb⟩; have hb1 := Aside0.mk hb; clear hb)
    | (go_at_call 12; refine (script_Parse.calls a0 L at_ e _ HP.out).mono ?_; rintro e2 w2 ⟨va, rfl, hA, hb⟩; have hb12 := Aside0.mk hb; have hb2 := Aside0.mk (below_step hb1.out hb); obtain ⟨Aa, ca, rfl⟩ := Kd.S_slice hA; have hA2 := Aside0.mk hA; clear hb hA)
    | (go_at_call 13; refine (inclineref21_Parse.calls k a0 L at_ e _ HR.out).mono ?_; rintro e3 w3 ⟨vw, rfl, hW, hb⟩; have hbk3 := Aside0.mk hb; have hb3 := Aside0.mk (below_step hb2.out hb); obtain ⟨Aw, cw, rfl⟩ := Kd.S_slice hW; have hW3 := Aside0.mk hW; have hA3 := Aside0.mk (Kd.S_below hA2.out hb); clear hb hW)
    | (go_at_call 14; refine (inclinelaw21_same.calls k _ _ L _ _ L true _ (Kd.S_reads' hA3.out).2.2 (Kd.S_reads' hA3.out).2.1 (Kd.S_reads' hW3.out).2.2 (Kd.S_reads' hW3.out).2.1 HS.out).mono ?_; rintro e4 w4 ⟨rfl, ⟨nd4, rfl⟩⟩))
  have hb01 := hb1.out
  obtain ⟨g, f, vals, hAa, hgb, hP0⟩ := PInv.start hA2.out (below_size hb12.out) hbk3.out
  have HAA := Aside0.mk hAa
  have HGB := Aside0.mk hgb
  have HP0 := Aside0.mk (hP0.below (pw_below_drewN (Below.refl _ _) nd4))
  have HB0 := Aside0.mk (pw_below_drewN (below_step hb12.out hbk3.out) nd4)
  clear hAa hgb hP0 hb01
  go_loopg [10] L.length (fun kq v10 w' => ∃ (i : Int), v10 = .int .i64 i ∧ 0 ≤ i ∧ Aside0 ((kq : Int) + i = (L.length : Int)) ∧ Aside0 (PInv w1 w2 w3 g f L vals i w') ∧ Aside0 (Below w1.heap.size w1 w'))
  case atStart => exact ⟨0, rfl, by omega, ⟨by omega⟩, HP0, HB0⟩
  case round =>
    obtain ⟨i, rfl, hi0, HKI, HP1, HB1⟩ := hrel
    have hki := HKI.out
    cases gk with
    | zero =>
      have hin : i = (L.length : Int) := by omega
      have hlt : decide (i < (L.length : Int)) = false := decide_eq_false (by omega)
      subst hin
      clear hki
      go_wp2_with (first
        | (go_at_call 12; refine (script_Parse.calls a0 L at_ e _ HP.out).mono ?_; rintro e5 w5 ⟨vb, rfl, hBv, hb⟩; obtain ⟨Ab, cb, rfl⟩ := Kd.S_slice hBv; have hB5 := Aside0.mk hBv; have hW5 := Aside0.mk (Kd.S_below (PInv.still HP1.out hW3.out) hb); have hb5 := Aside0.mk (below_step (below_step hb1.out HB1.out) hb); clear hb hBv)
        | (go_at_call 14; refine (inclinelaw21_same.calls k _ _ L _ _ L true _ (Kd.S_reads' hB5.out).2.2 (Kd.S_reads' hB5.out).2.1 (Kd.S_reads' hW5.out).2.2 (Kd.S_reads' hW5.out).2.1 HS.out).mono ?_; rintro e6 w6 ⟨rfl, ⟨nd6, rfl⟩⟩))
      go_ret
      exact ⟨rfl, pw_below_drewN hb5.out nd6⟩
    | succ k1 =>
      have hin : i.toNat < L.length := by omega
      have hlt : decide (i < (L.length : Int)) = true := decide_eq_true (by omega)
      obtain ⟨hg1, hg2⟩ := HGB.out (by omega)
      obtain rfl := HAA.out (by omega)
      obtain ⟨ns0, hn0, hR0⟩ := HP1.out.inner i.toNat (by omega) hin
      obtain ⟨Ai, ci, ev⟩ := Kd.R_slice hR0
      have hm3 : (L.getD i.toNat z30).f1.length ≤ 3 := by
        rw [List.getD_eq_getElem?_getD, List.getElem?_eq_getElem hin]
        exact H3.out _ (List.getElem_mem hin)
      obtain ⟨m, hm⟩ : ∃ m, (L.getD i.toNat z30).f1.length = m := ⟨_, rfl⟩
      rw [hn0, hm] at ev
      have EV := Aside0.mk ev
      have HM := Aside0.mk hm
      have HM3 : Aside0 (m ≤ 3) := ⟨by omega⟩
      have HIN := Aside0.mk hin
      have HG1 := Aside0.mk hg1
      have HG2 := Aside0.mk hg2
      have HKI1 := Aside0.mk hki
      have p0 := eq_true hi0
      have p1 : (i < (L.length : Int)) = True := eq_true (by omega)
      have p2 : decide (0 ≤ i) = true := decide_eq_true hi0
      have hi1 : IntKind.i64.wrap (i + 1) = i + 1 := by have := HN.out; rw [IntKind.wrap_i64]; omega
      clear hki ev hm hm3 hin hg1 hg2 hR0 hn0 ns0
      go_wp2_with (fail)
      obtain ⟨wo, hwo⟩ : ∃ wo : World, wo = wr := ⟨_, rfl⟩
      subst hwo
      go_loopg [11] m (fun kq v11 w' => ∃ (kk : Int), v11 = .int .i64 kk ∧ 0 ≤ kk ∧ Aside0 ((kq : Int) + kk = (m : Int)) ∧ Aside0 (PInv w1 w2 w3 g f L vals i w') ∧ Aside0 (Below w1.heap.size w1 w'))
      case atStart => exact ⟨0, rfl, by omega, ⟨by omega⟩, HP1, HB1⟩
      case round =>
        obtain ⟨kk, rfl, hk0, HKK, HP2, HB2⟩ := hrel
        have hkk := HKK.out
        have hcell := HP2.out.nums HIN.out
        rw [EV.out] at hcell
        cases gk with
        | zero =>
          have hkin : kk = (m : Int) := by omega
          subst hkin
          clear hkk
          go_wp2_with (first
            | ((with_reducible refine gate_dst (N := 73) rfl ?_); refine Kd.R_lit (Kd.int .u64) (w0 := w1) w1.heap.size 31 ?hg (N := 73) ?hd (xs := ([8] : List Int)) (inner := [.int .u64 8]) (ok := fun _ => True) (okp := fun _ => True) ?hr ?hp (fun _ hk => hk) trivial HB2.out (below_size HB2.out) (by simp) ?_; (case hd => rfl); (case hg => rfl); (case hr => first | (go_simp; done) | (go_simp; rfl)); (case hp => exact Reps.one rfl (Reps.none _ _)); intro vl w5 hol hb5 hgr hnew; obtain ⟨Al, cl, rfl⟩ := Kd.R_slice hol; have HL5 := Aside0.mk hol; have HB5 := Aside0.mk hb5; have HP5 := Aside0.mk (PInv.lit HP2.out hgr); obtain ⟨ns, hn, hR⟩ := HP5.out.inner i.toNat (by omega) HIN.out; rw [EV.out] at hR; have HNS := Aside0.mk (hn.trans HM.out); have HR5 := Aside0.mk (Kd.R_mono (ok' := fun _ => True) hR (fun _ _ => trivial)); clear hgr hnew hb5 hol hn hR)
            | ((with_reducible refine gate_builtin (b := .append) (xs := #[.tmp 72, .tmp 73]) rfl ?_); (try (refine gate_guard (by rfl) ?_; dsimp only)); at_builtin; refine Kd.R_append_rows (Kd.int .u64) (w0 := w1) w1.heap.size rfl (.tmp 72) (.tmp 73) 28 31 (.int .u64 0) 8 rfl Tryd.underlying28 info31 rfl (by decide) (by omega) _ ns [8] _ _ _ (fun _ => True) (fun _ => False) rfl rfl HR5.out (R_sl HL5.out).2.2 (fun _ _ h => h) (fun _ h => h.elim) (fun _ _ => trivial) HB5.out (below_size HB5.out) (by have := HNS.out; have := HM3.out; simp only [List.length_cons, List.length_nil]; omega) ?_; intro vm w6 ho hb hg hat; obtain ⟨b6, c6, e6, hc6⟩ := more_read ho HNS.out; subst e6; have hP6 := Aside0.mk (PInv.grown HP5.out (j0 := i.toNat) (by omega) HIN.out (by rw [EV.out]; exact hg)); have hcell6 := (hP6.out.nums HIN.out).trans (congrArg some EV.out); obtain ⟨⟨s6, hs6⟩, hf6⟩ := hP6.out.wcell HIN.out; have HB6 := Aside0.mk hb; have hPW := Aside0.mk (PInv.word hP6.out HG2.out HIN.out ⟨#[120]⟩); clear ho hb hg hat))
          go_roundg k1
          case measure => omega
          case rel => exact ⟨i + 1, rfl, by omega, ⟨by have := HKI1.out; omega⟩, hPW, ⟨below_set HB6.out HG1.out⟩⟩
        | succ k2 =>
          have hkm : decide (kk < (m : Int)) = true := decide_eq_true (by omega)
          obtain ⟨ns, hn, hR⟩ := HP2.out.inner i.toNat (by omega) HIN.out
          rw [EV.out] at hR
          have hns := hn.trans HM.out
          obtain ⟨b, cb, eb, _⟩ := Kd.R_form hR (by omega)
          injection eb with eb1 eb2 eb3
          subst eb1
          obtain ⟨hx1, hf1⟩ := Kd.R_celln 0 hR kk hk0 (by omega)
          have q0 := eq_true hk0
          have q1 : (kk < (m : Int)) = True := eq_true (by omega)
          have q2 : decide (0 ≤ kk) = true := decide_eq_true hk0
          have hk1 : IntKind.i64.wrap (kk + 1) = kk + 1 := by have := HM3.out; rw [IntKind.wrap_i64]; omega
          have hPP := Aside0.mk (PInv.put HP2.out (j0 := i.toNat) (by omega) HIN.out EV.out kk 9)
          have hbb := hR.1 b (by simp [Value.ownBlock])
          have HBB := Aside0.mk hbb.1.2.1
          clear hn hns hR eb2 eb3 hkk hbb
          go_wp2_with (fail)
          go_roundg k2
          case measure => omega
          case rel => exact ⟨kk + 1, rfl, by omega, ⟨by have := HKK.out; omega⟩, hPP, ⟨below_set HB2.out HBB.out⟩⟩
end Go.Proofs.YtlfoaaeelcmhiaaDoor
end

section
/- The row of ScriptParses: for every input the law answers true, and each argument reads as it did. Out of its walk (Walks.ScriptParses). -/
namespace Go.Proofs.YtlfoaaeelcmhiaaDoor.rowScriptParses
open Go.ChangeShapes Go.WideShapes Go.ChangeAt Go.RowKit Go.Proofs.YtlfoaaeelcmhiaaDoor.Reading
open Go.ChangeMaps (open_string shut_string)
set_option linter.unusedVariables false
theorem own : ownKnob Tryd.prog.godebug = none := by kernel_rfl
theorem laidOut : laidOutB Tryd.prog = true := by kernel_rfl
set_option maxRecDepth 100000 in
theorem contract (H : Type) (enc : TypeId × Value → H) (W : World) (base : Nat) (args : Array Value) (ds gs : List (DataW H)) (before : List MemPlace)
    (hval0 : ∀ (j : Nat) t v, Tryd.f3.params[j]? = some t → args[j]? = some v → Value.okWide Tryd.prog W .any base t v)
    (hW : DataW.Whole enc Tryd.prog Tryd.f3.params.toList Rows.scriptParsesSpec.vars false W args.toList ds gs before) (hL : laidMetH Tryd.prog Rows.scriptParsesRow.laid W)
    (hsz0 : (DataW.weightsEach Tryd.prog (Tryd.f3.params.toList ++ Rows.scriptParsesSpec.plain.varTypes Tryd.prog) (ds ++ gs)).all (· ≤ reachBytes) = true) :
    Calls Tryd.prog 3 args W fun e W' => ∃ v, e = .returned v ∧ Rows.scriptParsesSpec.post enc Tryd.prog Tryd.f3 false true false false W args v W' := by
  have hval := hval0
  have hsz := hsz0
  have hW' := hW
  obtain ⟨p, q, hA0, hV, rfl, hfz, hnd⟩ := hW
  have hA : DataW.TrodAll enc Tryd.prog W 0 (fun _ => true) true Tryd.f3.params.toList args.toList ds p := hA0
  rw [Tryd.params3] at hA hval hsz
  obtain ⟨v0, vs0, d0, ds0, p0, q0, hargs, rfl, rfl, h0, r0⟩ := trodAll_cons hA
  obtain ⟨rfl, rfl, rfl⟩ := trodAll_nil r0
  obtain rfl : args = #[v0] := by cases args; simp_all
  obtain ⟨rfl, rfl⟩ := trodVars_none hV
  have hwt := weights_at hsz
  have k0 := h0
  have lt0 : ∀ x ∈ p0, x.block < W.heap.size := by obtain ⟨m, hm⟩ := k0; exact DataW.trod_lt m _ _ _ hm
  have wt0 : ∀ n ∈ DataW.weights Tryd.prog 9 d0, n ≤ reach := fun n hn => hwt n (by simp only [List.cons_append, List.nil_append, List.append_nil, DataW.weightsEach, List.mem_append]; first | exact hn | exact (.inl hn) | exact hn)
  obtain ⟨a0, rfl, rfl, rfl, w0⟩ := open_string Tryd.underlying9 (hval 0 9 v0 rfl rfl) h0
  have hs0 : a0.size ≤ reach := by have := wt0 a0.data.toList.length (by simp [DataW.weights]); have e : a0.data.toList.length = a0.size := by (rw [Array.length_toList]; rfl)
                                   omega
  clear hA0 hval0 hsz0 hsz
  refine (Walks.ScriptParses (tabs_of hL) a0 hs0).mono fun e W' ⟨he, bel⟩ => ?_
  subst he
  exact ⟨_, rfl, _, _, _, [], _, [], hW', trodAll_mk1 (shut_bool Tryd.underlying4 _), (trodAll_cons_mk (Below.trod laidOut (by kernel_rfl) (of_decide_eq_true (by kernel_rfl)) k0 bel lt0) trodAll_mk0), rfl, bel.frame _, fun h => by cases h⟩
set_option maxRecDepth 100000 in
theorem lifted (os : Os) (started : os.Started) (H : Type) (enc : TypeId × Value → H) (F : Stop.Interp) :
    ReturnsInHanded {} Tryd.checked os 3 .any ((OpenSpec.ofChange Rows.scriptParsesSpec).preRow enc Tryd.prog Tryd.f3 Rows.scriptParsesRow.domain false Rows.scriptParsesRow.laid) (((OpenSpec.ofChange Rows.scriptParsesSpec).at F).post enc Tryd.prog Tryd.f3 false true false false) := by
  obtain ⟨places, hx⟩ : ∃ places, DataW.whole enc Tryd.prog ((laidWorld os).forCall (fun _ _ => 0) ⟨#[], #[.string ByteArray.empty], []⟩).memory Tryd.f3.params.toList Rows.scriptParsesSpec.vars false (#[.string ByteArray.empty] : Array Value).toList 8 = some ([.lit (.string [])], [], places) := ⟨[], by kernel_rfl⟩
  refine returnsInHanded_of_row (C := Tryd.checked) (s := (OpenSpec.ofChange Rows.scriptParsesSpec)) own started (by kernel_rfl) Tryd.func3
    (witness_row_at (enc := enc) (C := Tryd.checked) false (laidWorld os) #[.string ByteArray.empty] rfl (by kernel_rfl) (by kernel_rfl) (by kernel_rfl)
      (OpenSpec.preRow_of_cond 8 hx (by kernel_rfl) (fun k hk => by cases hk) (by kernel_rfl) (laid_met os _))) ?_
  intro W base args ds gs before hval hW _ hcond hsz hL _ _
  exact contract H enc W base args ds gs before hval hW hL hsz
theorem over : Rows.scriptParsesRow.holds Tryd.pinned (OpenSpec.ofChange Rows.scriptParsesSpec) :=
  OpenClaim.holds_of_cond 3 Tryd.f3 rfl rfl rfl rfl rfl rfl rfl ⟨rfl, rfl, rfl, rfl, rfl⟩ rfl rfl rfl rfl rfl (by kernel_rfl) Tryd.func3 (by kernel_rfl)
    (of_decide_eq_true (by kernel_rfl)) (by unfold Func.isWrapper; first | (rw [if_pos (by decide +kernel)]; kernel_rfl) | (rw [if_neg (by decide +kernel)]; exact ⟨rfl, rfl⟩))
    (fun os started H enc _ F => by rw [OpenClaim.pre_eq_preRow]; exact lifted os started H enc F)
theorem plain (f : FuncId) (fn : Func) (hf : Tryd.pinned.checked.prog.funcNamed "incline/inclinelaw21.ScriptParses" = some f) (hfn : Tryd.pinned.checked.prog.funcs[f]? = some fn) :
    false = Tryd.pinned.checked.prog.looks [] ∧ ∀ (j : Nat) t, fn.params[j]? = some t → Tryd.pinned.checked.prog.wantsStandIn t = false := by
  obtain rfl : f = 3 := Option.some.inj ((show Tryd.prog.funcNamed "incline/inclinelaw21.ScriptParses" = some 3 by kernel_rfl).symm.trans hf) |>.symm
  obtain rfl : fn = Tryd.f3 := (Option.some.inj (Tryd.func3.symm.trans hfn)).symm
  refine ⟨by kernel_rfl, fun j t ht => ?_⟩
  rw [Tryd.params3] at ht
  have hm : t ∈ [9] := by simpa using Array.mem_of_getElem? ht
  have hall : ([9].all fun u => !Tryd.prog.wantsStandIn u) = true := by kernel_rfl
  exact (show Tryd.prog.wantsStandIn t = false by simpa using List.all_eq_true.1 hall t hm)
end Go.Proofs.YtlfoaaeelcmhiaaDoor.rowScriptParses
namespace Go.Proofs.YtlfoaaeelcmhiaaDoor
/-- The card. -/
theorem scriptParses_holds : Rows.ScriptParsesCardSaid :=
  Claim7.holds_tied_plain_at .later [] _ _ _ _ rowScriptParses.over (fun _ h => by cases h) (by kernel_rfl) (fun _ h => by cases h) scriptParses_row_tie rfl ⟨rfl, rfl⟩ (by kernel_rfl) rfl rowScriptParses.plain (by kernel_rfl)
#print axioms scriptParses_holds
end Go.Proofs.YtlfoaaeelcmhiaaDoor
end
