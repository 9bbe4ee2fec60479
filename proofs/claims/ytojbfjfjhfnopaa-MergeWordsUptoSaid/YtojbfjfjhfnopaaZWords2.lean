/- The last of the claim's own texts, in one file: Gx8, PureB, RefMerge, RefEnt, PlainW, RoundQ, CountN, WalkWords, RowMergeWords. Conditions: each theorem's own. -/
import Derived.Test.YtojbfjfjhfnopaaZBase1
import Derived.Test.YtojbfjfjhfnopaaZWords1
import Derived.Test.YtojbfjfjhfnopaaZBase2
import Derived.Test.YtojbfjfjhfnopaaZBase3
import Derived.Sort.BigQuietIn
import Derived.KernelRfl
import Derived.Sort.CutIn
import Derived.Test.YtojbfjfjhfnopaaRows
import Derived.WalkKit
import Derived.ProofKit
import Derived.OpenShut
import Derived.ShutString
import Derived.ChangeOld
import Derived.Below
import Derived.SizedLaws
import Derived.JoinedCond
import Derived.Deep.CondSized
section
-- Written by a program of this session (wip/gprint.py: the kit's print, with contracts proved by hand)
namespace Go.Proofs.Ytojbfjfjhfnopaa.G
open Go.RowKit Go.Proofs.YtojbfjfjhfnopaaW.PrintWords Go.Proofs.YtojbfjfjhfnopaaW.PrintLast Go.Proofs.YtojbfjfjhfnopaaW.PrintMore
attribute [local go_sem] max2_int min2_int max_two min_two max_three min_three max_four min_four   -- for this text's walks alone
set_option linter.unusedVariables false
set_option linter.unusedSimpArgs false

/-! ### inclineref13_Entries: function 12 -/
mutual
def inclineref13_Entries.l0 : Nat → List (List (S32)) → List (List Int) → Int → Option ((List (S32)))
  | 0, _, _, _ => none
  | k + 1, x0, x3, x4 => if x4 < (x0.length : Int) then (inclineref13_Entries.l1 k x0 x3 x4 (([] : List Int)) 0) else ((inclineref13_Merge.f k x3).bind fun t166 => (inclineref13_Entries.l2 k x0 t166 (([] : List (S32))) 0))
def inclineref13_Entries.l1 : Nat → List (List (S32)) → List (List Int) → Int → List Int → Int → Option ((List (S32)))
  | 0, _, _, _, _, _ => none
  | k + 1, x0, x3, x4, x5, x6 => if 0 ≤ x4 then (if x4 < (x0.length : Int) then (if x6 < ((rd_L3 x0 x4).length : Int) then (if 0 ≤ x6 then (if x5.length < 17592186044416 then (inclineref13_Entries.l1 k x0 x3 x4 (x5 ++ [(rd_T32 (rd_L3 x0 x4) x6).f0]) (wrap64 (x6 + 1))) else (none)) else (none)) else (if x3.length < 5864062014805 then (inclineref13_Entries.l0 k x0 (x3 ++ [x5]) (wrap64 (x4 + 1))) else (none))) else (none)) else (none)
def inclineref13_Entries.l2 : Nat → List (List (S32)) → List (S54) → List (S32) → Int → Option ((List (S32)))
  | 0, _, _, _, _ => none
  | k + 1, x0, x7, x8, x9 => if x9 < (x7.length : Int) then (if 0 ≤ x9 then (if 0 ≤ ((rd_T54 x7 x9).f0) then (if ((rd_T54 x7 x9).f0) < (x0.length : Int) then (if 0 ≤ ((rd_T54 x7 x9).f1) then (if ((rd_T54 x7 x9).f1) < ((rd_L3 x0 ((rd_T54 x7 x9).f0)).length : Int) then (if x8.length < 5864062014805 then (inclineref13_Entries.l2 k x0 x7 (x8 ++ [(⟨(rd_T32 (rd_L3 x0 ((rd_T54 x7 x9).f0)) ((rd_T54 x7 x9).f1)).f0, (rd_T32 (rd_L3 x0 ((rd_T54 x7 x9).f0)) ((rd_T54 x7 x9).f1)).f1, (rd_T32 (rd_L3 x0 ((rd_T54 x7 x9).f0)) ((rd_T54 x7 x9).f1)).f2⟩ : S32)]) (wrap64 (x9 + 1))) else (none)) else (none)) else (none)) else (none)) else (none)) else (none)) else (some x8)
end
def inclineref13_Entries.f (k : Nat) (l0 : List (List (S32))) : Option ((List (S32))) := inclineref13_Entries.l0 k l0 (([] : List (List Int))) 0
theorem inclineref13_Entries.mono_l : ∀ k, (∀ y0 y1 y2, LeO (inclineref13_Entries.l0 k y0 y1 y2) (inclineref13_Entries.l0 (k + 1) y0 y1 y2)) ∧ (∀ y0 y1 y2 y3 y4, LeO (inclineref13_Entries.l1 k y0 y1 y2 y3 y4) (inclineref13_Entries.l1 (k + 1) y0 y1 y2 y3 y4)) ∧ (∀ y0 y1 y2 y3, LeO (inclineref13_Entries.l2 k y0 y1 y2 y3) (inclineref13_Entries.l2 (k + 1) y0 y1 y2 y3))
  | 0 => ⟨fun _ _ _ r h => by simp [inclineref13_Entries.l0] at h, fun _ _ _ _ _ r h => by simp [inclineref13_Entries.l1] at h, fun _ _ _ _ r h => by simp [inclineref13_Entries.l2] at h⟩
  | k + 1 => by
    obtain ⟨ih0, ih1, ih2⟩ := inclineref13_Entries.mono_l k
    refine ⟨?_, ?_, ?_⟩
    · intro y0 y1 y2
      unfold inclineref13_Entries.l0
      repeat' first
      | (with_reducible exact ih0 _ _ _)
      | (with_reducible exact ih1 _ _ _ _ _)
      | (with_reducible exact ih2 _ _ _ _)
      | (with_reducible exact inclineref13_Merge.mono _ _)
      | (with_reducible exact LeO.refl _)
      | (with_reducible exact LeO.none _)
      | (with_reducible refine LeO.ite ?_ ?_)
      | (with_reducible refine LeO.bind ?_ (fun _ => ?_))
      | exact ih0 _ _ _
      | exact ih1 _ _ _ _ _
      | exact ih2 _ _ _ _
      | exact inclineref13_Merge.mono _ _
      | exact LeO.none _
      | refine LeO.ite ?_ ?_
      | refine LeO.bind ?_ (fun _ => ?_)
    · intro y0 y1 y2 y3 y4
      unfold inclineref13_Entries.l1
      repeat' first
      | (with_reducible exact ih0 _ _ _)
      | (with_reducible exact ih1 _ _ _ _ _)
      | (with_reducible exact ih2 _ _ _ _)
      | (with_reducible exact inclineref13_Merge.mono _ _)
      | (with_reducible exact LeO.refl _)
      | (with_reducible exact LeO.none _)
      | (with_reducible refine LeO.ite ?_ ?_)
      | (with_reducible refine LeO.bind ?_ (fun _ => ?_))
      | exact ih0 _ _ _
      | exact ih1 _ _ _ _ _
      | exact ih2 _ _ _ _
      | exact inclineref13_Merge.mono _ _
      | exact LeO.none _
      | refine LeO.ite ?_ ?_
      | refine LeO.bind ?_ (fun _ => ?_)
    · intro y0 y1 y2 y3
      unfold inclineref13_Entries.l2
      repeat' first
      | (with_reducible exact ih0 _ _ _)
      | (with_reducible exact ih1 _ _ _ _ _)
      | (with_reducible exact ih2 _ _ _ _)
      | (with_reducible exact inclineref13_Merge.mono _ _)
      | (with_reducible exact LeO.refl _)
      | (with_reducible exact LeO.none _)
      | (with_reducible refine LeO.ite ?_ ?_)
      | (with_reducible refine LeO.bind ?_ (fun _ => ?_))
      | exact ih0 _ _ _
      | exact ih1 _ _ _ _ _
      | exact ih2 _ _ _ _
      | exact inclineref13_Merge.mono _ _
      | exact LeO.none _
      | refine LeO.ite ?_ ?_
      | refine LeO.bind ?_ (fun _ => ?_)
theorem inclineref13_Entries.mono : ∀ a0 k, LeO (inclineref13_Entries.f k a0) (inclineref13_Entries.f (k + 1) a0) := by
  intro a0 k
  obtain ⟨ih0, ih1, ih2⟩ := inclineref13_Entries.mono_l k
  unfold inclineref13_Entries.f
  repeat' first
      | (with_reducible exact ih0 _ _ _)
      | (with_reducible exact ih1 _ _ _ _ _)
      | (with_reducible exact ih2 _ _ _ _)
      | (with_reducible exact inclineref13_Merge.mono _ _)
      | (with_reducible exact LeO.refl _)
      | (with_reducible exact LeO.none _)
      | (with_reducible refine LeO.ite ?_ ?_)
      | (with_reducible refine LeO.bind ?_ (fun _ => ?_))
      | exact ih0 _ _ _
      | exact ih1 _ _ _ _ _
      | exact ih2 _ _ _ _
      | exact inclineref13_Merge.mono _ _
      | exact LeO.none _
      | refine LeO.ite ?_ ?_
      | refine LeO.bind ?_ (fun _ => ?_)
def inclineref13_Entries.T16 : Bool × List (List Nat × List Nat) := (true, [([], []), ([], []), ([], []), ([], []), ([2, 3], [2, 3]), ([4], [4]), ([5], [5]), ([1, 6], [1, 6]), ([7], [7]), ([], []), ([], []), ([9, 10], [9, 10]), ([11], [11]), ([12], [12]), ([8, 13], [8, 13]), ([14], [14]), ([15], [15]), ([0, 16], [0, 16]), ([17, 17, 0, 1, 2, 3, 4, 5, 6, 7, 8, 9, 10, 11, 12, 13, 14, 15, 16, 17], [0, 17])])
def inclineref13_Entries.B16 : List Nat := [0, 0, 0, 0, 12, 28, 60, 126, 254, 0, 0, 1536, 3584, 7680, 16382, 32766, 65534, 131071, 262143]
theorem inclineref13_Entries.tab16 : rtab .any (opsOf Try.f12 16) = inclineref13_Entries.T16 := by kernel_rfl
theorem inclineref13_Entries.bits16 : waitsOk inclineref13_Entries.T16.2 inclineref13_Entries.B16 = true := by kernel_rfl
set_option maxHeartbeats 8000000 in
set_option maxRecDepth 100000 in
theorem inclineref13_Entries.calls (k : Nat) (A0 : Option Addr) (c0 : Nat) (l0 : List (List (S32))) (r : List (S32)) (w : World) (hr0 : Kd.C (Kd.slice 32 k32) w A0 l0.length l0) (hc0 : l0.length ≤ c0) (h : inclineref13_Entries.f k l0 = some r) :
    Calls Try.prog 12 #[.slice A0 l0.length c0] w fun e w' => ∃ v0_ : Value, e = .returned (v0_) ∧ Kd.R k32 32 w' w.heap.size (fun _ => True) v0_ r ∧ Below w.heap.size w w' := by
  have hu32 := Try.underlying32
  have HR0 := Aside0.mk hr0
  have HC0 := Aside0.mk hc0
  clear hr0 hc0
  have HB := Aside0.mk (Below.refl w.heap.size w)
  have H : (inclineref13_Entries.l0 k l0 (([] : List (List Int))) 0) = some r := h
  clear h
  obtain ⟨y151, hy151⟩ : ∃ y_ : List (List Int), y_ = (([] : List (List Int))) := ⟨_, rfl⟩
  replace H : (inclineref13_Entries.l0 k l0 y151 0) = some r := by first | (rw [hy151]; with_reducible exact H) | (have H2_ := (Option.bind_some _ _).symm.trans H; rw [hy151]; with_reducible exact H2_) | (have H2_ := (Option.bind_some _ _).symm.trans H; with_reducible exact H2_) | with_reducible exact H | (rw [hy151]; exact H) | exact H
  have Ny151 := Aside0.mk hy151
  clear hy151
  have H' := Aside0.mk H
  clear H
  go_enter Try.func12, Try.ntmps12
  go_wp2_with (first | ((with_reducible refine gate_dst (N := 10) rfl ?_); refine Kd.S_lit (Kd.slice 30 (Kd.int .u64)) _ 49 ?hg (N := 10) ?hd (xs := ([] : List (List Int))) (inner := []) (ok := fun _ => True) (okp := fun _ => True) ?hr ?hp (fun _ hk => hk) trivial (Below.refl _ _) (Nat.le_refl _) (by simp) ?_; (case hd => rfl); (case hg => rfl); (case hr => first | (go_simp; done) | (go_simp; rfl)); (case hp => exact (Reps.none _ _)); intro v152 w2 ho3 hb hg_ hnew_; clear hg_ hnew_; (first | rw [← Ny151.out] at ho3 | (simp only [Int.reduceToNat] at ho3; rw [← Ny151.out] at ho3)); have n0_ := Aside0.mk (Kd.S_lower ho3 (below_size (by repeat (first | (with_reducible first | exact HB.out | apply below_alloc | apply pw_below_drewN | apply below_drew1) | exact HB.out)))); have n1_ := Aside0.mk (below_step (by repeat (first | (with_reducible first | exact HB.out | apply below_alloc | apply pw_below_drewN | apply below_drew1) | exact HB.out)) hb); clear HB; have HO153 := n0_; have HB := n1_; clear n0_ n1_; clear hb ho3))
  go_loopg [3, 4] k (fun kq v3 v4 w' => ∃ (x3_1 : List (List Int)) (x4_1 : Int), v4 = .int .i64 x4_1 ∧ Aside0 (inclineref13_Entries.l0 kq l0 x3_1 x4_1 = some r) ∧ Aside0 (kq ≤ k) ∧ Aside0 (Kd.S (Kd.slice 30 (Kd.int .u64)) 49 w' w.heap.size (fun _ => True) v3 x3_1) ∧ Aside0 (Below w.heap.size w w'))
  case atStart => exact ⟨(y151), (0), (by first | rfl | (simp; done) | (simp [*]; done)), H', ⟨Nat.le_refl _⟩, ⟨by (with_reducible repeat (first | apply Kd.S_alloc | apply Kd.S_drewN | apply Kd.S_drew)); exact HO153.out⟩, ⟨by repeat (first | (with_reducible first | exact HB.out | apply below_alloc | apply pw_below_drewN | apply below_drew1) | exact HB.out)⟩⟩
  case round =>
    clear H'
    try clear c1
    try clear p2
    obtain ⟨x3_1, x4_1, rfl, HA, HK1, HO_3, HB⟩ := hrel
    cases gk with
    | zero => exact absurd HA.out (by simp [inclineref13_Entries.l0])
    | succ k1 =>
      have H := HA.out
      clear HA
      simp only [inclineref13_Entries.l0] at H
      by_cases c4 : x4_1 < (l0.length : Int)
      · rw [if_pos c4] at H
        have c4b0 : decide (x4_1 < (l0.length : Int)) = true := decide_eq_true c4
        clear c4
        obtain ⟨y154, hy154⟩ : ∃ y_ : List Int, y_ = (([] : List Int)) := ⟨_, rfl⟩
        replace H : (inclineref13_Entries.l1 k1 l0 x3_1 x4_1 y154 0) = some r := by first | (rw [hy154]; with_reducible exact H) | (have H2_ := (Option.bind_some _ _).symm.trans H; rw [hy154]; with_reducible exact H2_) | (have H2_ := (Option.bind_some _ _).symm.trans H; with_reducible exact H2_) | with_reducible exact H | (rw [hy154]; exact H) | exact H
        have Ny154 := Aside0.mk hy154
        clear hy154
        have H' := Aside0.mk H
        clear H
        go_wp2_with (first | ((with_reducible refine gate_dst (N := 17) rfl ?_); refine Kd.R_lit (Kd.int .u64) _ 30 ?hg (N := 17) ?hd (xs := ([] : List Int)) (inner := []) (ok := fun _ => True) (okp := fun _ => True) ?hr ?hp (fun _ hk => hk) trivial (Below.refl _ _) (Nat.le_refl _) (by simp) ?_; (case hd => rfl); (case hg => rfl); (case hr => first | (go_simp; done) | (go_simp; rfl)); (case hp => exact (Reps.none _ _)); intro v155 w5 ho6 hb hg_ hnew_; clear hg_ hnew_; (first | rw [← Ny154.out] at ho6 | (simp only [Int.reduceToNat] at ho6; rw [← Ny154.out] at ho6)); have n0_ := Aside0.mk (Kd.S_elder' (by (with_reducible repeat (first | apply Kd.S_alloc | apply Kd.S_drewN | apply Kd.S_drew)); exact HO_3.out) (Kd.R_base ho6) hb); have n1_ := Aside0.mk (Kd.R_lower ho6 (below_size (by repeat (first | (with_reducible first | exact HB.out | apply below_alloc | apply pw_below_drewN | apply below_drew1) | exact HB.out)))); have n2_ := Aside0.mk (below_step (by repeat (first | (with_reducible first | exact HB.out | apply below_alloc | apply pw_below_drewN | apply below_drew1) | exact HB.out)) hb); clear HO_3; clear HB; have HO_3 := n0_; have HO156 := n1_; have HB := n2_; clear n0_ n1_ n2_; clear hb ho6))
        go_loopg [5, 6] k1 (fun kq v5 v6 w' => ∃ (x5_2 : List Int) (x6_2 : Int), v6 = .int .i64 x6_2 ∧ Aside0 (inclineref13_Entries.l1 kq l0 x3_1 x4_1 x5_2 x6_2 = some r) ∧ Aside0 (kq ≤ k1) ∧ Aside0 (Kd.S (Kd.slice 30 (Kd.int .u64)) 49 w' w.heap.size (fun k_ => some k_ ≠ (v5 : Value).ownBlock) u3 x3_1) ∧ Aside0 (Kd.R (Kd.int .u64) 30 w' w.heap.size (fun _ => True) v5 x5_2) ∧ Aside0 (Below w.heap.size w w'))
        case atStart => exact ⟨(y154), (0), (by first | rfl | (simp; done) | (simp [*]; done)), H', ⟨Nat.le_refl _⟩, ⟨by (with_reducible repeat (first | apply Kd.S_alloc | apply Kd.S_drewN | apply Kd.S_drew)); exact Kd.S_mono HO_3.out (fun _ hk => hk.2)⟩, ⟨by (with_reducible repeat (first | apply Kd.R_alloc | apply Kd.R_drewN | apply Kd.R_drew)); exact HO156.out⟩, ⟨by repeat (first | (with_reducible first | exact HB.out | apply below_alloc | apply pw_below_drewN | apply below_drew1) | exact HB.out)⟩⟩
        case round =>
          clear H'
          try clear c1
          try clear p2
          try clear c4
          try clear c4b0
          try clear p2
          obtain ⟨x5_2, x6_2, rfl, HA, HK2, HO_3, HO_5, HB⟩ := hrel
          cases gk with
          | zero => exact absurd HA.out (by simp [inclineref13_Entries.l1])
          | succ k2 =>
            have H := HA.out
            clear HA
            simp only [inclineref13_Entries.l1] at H
            by_cases c7 : 0 ≤ x4_1
            · rw [if_pos c7] at H
              have c7b0 : decide (0 ≤ x4_1) = true := decide_eq_true c7
              clear c7
              by_cases c8 : x4_1 < (l0.length : Int)
              · rw [if_pos c8] at H
                have c8b0 : decide (x4_1 < (l0.length : Int)) = true := decide_eq_true c8
                clear c8
                by_cases c9 : x6_2 < ((rd_L3 l0 x4_1).length : Int)
                · rw [if_pos c9] at H
                  have c9b0 : decide (x6_2 < ((rd_L3 l0 x4_1).length : Int)) = true := decide_eq_true c9
                  clear c9
                  by_cases c10 : 0 ≤ x6_2
                  · rw [if_pos c10] at H
                    have c10b0 : decide (0 ≤ x6_2) = true := decide_eq_true c10
                    clear c10
                    by_cases c11 : x5_2.length < 17592186044416
                    · rw [if_pos c11] at H
                      have LMc11 := Aside0.mk c11
                      clear c11
                      obtain ⟨y160, hy160⟩ : ∃ y_ : List Int, y_ = (x5_2 ++ [(rd_T32 (rd_L3 l0 x4_1) x6_2).f0]) := ⟨_, rfl⟩
                      replace H : (inclineref13_Entries.l1 k2 l0 x3_1 x4_1 y160 (wrap64 (x6_2 + 1))) = some r := by first | (rw [hy160]; with_reducible exact H) | (have H2_ := (Option.bind_some _ _).symm.trans H; rw [hy160]; with_reducible exact H2_) | (have H2_ := (Option.bind_some _ _).symm.trans H; with_reducible exact H2_) | with_reducible exact H | (rw [hy160]; exact H) | exact H
                      have Ny160 := Aside0.mk hy160
                      clear hy160
                      have H' := Aside0.mk H
                      clear H
                      have p157 : 0 ≤ (x4_1 : Int) := of_decide_eq_true (by first | (with_reducible assumption) | assumption)
                      have q157 : x4_1 < (l0.length : Int) := of_decide_eq_true (by first | (with_reducible assumption) | assumption)
                      obtain ⟨ad157, A157_0, c157_0, e157, hx157_0, hl157_0, hi157_0⟩ := at_L3 HR0.out x4_1 p157 q157
                      cases e157
                      replace hx157_0 := (HB.out.cell (World.block_lt_of_cell? w _ hx157_0)).trans hx157_0
                      have HR157_0 := Aside0.mk hi157_0
                      have HC157_0 := Aside0.mk hl157_0
                      clear hi157_0 hl157_0
                      replace p157 := eq_true p157
                      replace q157 := eq_true q157
                      have p158 : 0 ≤ (x4_1 : Int) := of_decide_eq_true (by first | (with_reducible assumption) | assumption)
                      have q158 : x4_1 < (l0.length : Int) := of_decide_eq_true (by first | (with_reducible assumption) | assumption)
                      obtain ⟨ad158, A158_0, c158_0, e158, hx158_0, hl158_0, hi158_0⟩ := at_L3 HR0.out x4_1 p158 q158
                      obtain rfl : ad157 = ad158 := (by injection e158)
                      replace hx158_0 := (HB.out.cell (World.block_lt_of_cell? w _ hx158_0)).trans hx158_0
                      have HR158_0 := Aside0.mk hi158_0
                      have HC158_0 := Aside0.mk hl158_0
                      clear hi158_0 hl158_0
                      replace p158 := eq_true p158
                      replace q158 := eq_true q158
                      have ea_ := Option.some.inj (hx157_0.symm.trans hx158_0)
                      injection ea_ with ea_ en_ ec_
                      subst ea_
                      subst ec_
                      clear en_
                      have p159 : 0 ≤ (x6_2 : Int) := of_decide_eq_true (by first | (with_reducible assumption) | assumption)
                      have q159 : x6_2 < ((rd_L3 l0 x4_1).length : Int) := of_decide_eq_true (by first | (with_reducible assumption) | assumption)
                      obtain ⟨ad159, e159, hx159_0, hx159_1, hx159_2⟩ := at_T32 HR158_0.out x6_2 p159 q159
                      cases e159
                      replace hx159_0 := (HB.out.cell (World.block_lt_of_cell? w _ hx159_0)).trans hx159_0
                      replace hx159_1 := (HB.out.cell (World.block_lt_of_cell? w _ hx159_1)).trans hx159_1
                      replace hx159_2 := (HB.out.cell (World.block_lt_of_cell? w _ hx159_2)).trans hx159_2
                      replace p159 := eq_true p159
                      replace q159 := eq_true q159
                      go_wp2_with (first | ((with_reducible refine gate_builtin (b := .append) (xs := #[.tmp 27, .tmp 36]) rfl ?_); at_builtin; refine Kd.R_append (Kd.int .u64) (w0 := w) w.heap.size rfl (.tmp 27) (.tmp 36) 49 30 (.int .u64 0) 8 rfl Try.underlying49 info30 rfl (by decide) (by omega) u5 x5_2 ((rd_T32 (rd_L3 l0 x4_1) x6_2).f0) [.int .u64 ((rd_T32 (rd_L3 l0 x4_1) x6_2).f0)] (fun _ => True) (fun _ => False) rfl rfl ?aP (fun _ hk => hk.elim) ?aF ?aO ?aB ?aS ?aL ?_; (case aP => exact rfl); (case aB => exact (by repeat (first | (with_reducible first | exact HB.out | apply below_alloc | apply pw_below_drewN | apply below_drew1) | exact HB.out))); (case aF => exact (fun _ _ => trivial)); (case aO => exact (by (with_reducible repeat (first | apply Kd.R_alloc | apply Kd.R_drewN | apply Kd.R_drew)); exact HO_5.out)); (case aS => exact (below_size (by repeat (first | (with_reducible first | exact HB.out | apply below_alloc | apply pw_below_drewN | apply below_drew1) | exact HB.out)))); (case aL => have := LMc11.out; omega); intro v161 w12 ho hb hg hat; rw [← Ny160.out] at ho; have n0_ := Aside0.mk (Kd.S_after (ok := (fun _ => True)) (by (with_reducible repeat (first | apply Kd.S_alloc | apply Kd.S_drewN | apply Kd.S_drew)); exact Kd.S_mono HO_3.out (fun _ hk => ⟨trivial, hk⟩)) hg hat); have n1_ := Aside0.mk (hb); have n2_ := Aside0.mk (ho); clear HO_3; clear HB; clear HO_5; have HO_3 := n0_; have HB := n1_; have HO162 := n2_; clear n0_ n1_ n2_; clear ho hb hg hat))
                      go_roundg k2
                      case measure => have := HK1.out; have := HK2.out; omega
                      case rel => exact ⟨(y160), (wrap64 (x6_2 + 1)), (by first | rfl | (simp; done) | (simp [*]; done)), H', ⟨by have := HK1.out; have := HK2.out; omega⟩, ⟨by (with_reducible repeat (first | apply Kd.S_alloc | apply Kd.S_drewN | apply Kd.S_drew)); exact Kd.S_mono HO_3.out (fun _ hk => hk.2)⟩, ⟨by (with_reducible repeat (first | apply Kd.R_alloc | apply Kd.R_drewN | apply Kd.R_drew)); exact HO162.out⟩, ⟨by repeat (first | (with_reducible first | exact HB.out | apply below_alloc | apply pw_below_drewN | apply below_drew1) | exact HB.out)⟩⟩
                    · rw [if_neg c11] at H
                      exact absurd H (by simp)
                  · rw [if_neg c10] at H
                    exact absurd H (by simp)
                · rw [if_neg c9] at H
                  have c9b0 : decide (x6_2 < ((rd_L3 l0 x4_1).length : Int)) = false := decide_eq_false c9
                  clear c9
                  by_cases c13 : x3_1.length < 5864062014805
                  · rw [if_pos c13] at H
                    have LMc13 := Aside0.mk c13
                    clear c13
                    obtain ⟨y163, hy163⟩ : ∃ y_ : List (List Int), y_ = (x3_1 ++ [x5_2]) := ⟨_, rfl⟩
                    replace H : (inclineref13_Entries.l0 k2 l0 y163 (wrap64 (x4_1 + 1))) = some r := by first | (rw [hy163]; with_reducible exact H) | (have H2_ := (Option.bind_some _ _).symm.trans H; rw [hy163]; with_reducible exact H2_) | (have H2_ := (Option.bind_some _ _).symm.trans H; with_reducible exact H2_) | with_reducible exact H | (rw [hy163]; exact H) | exact H
                    have Ny163 := Aside0.mk hy163
                    clear hy163
                    have H' := Aside0.mk H
                    clear H
                    have p157 : 0 ≤ (x4_1 : Int) := of_decide_eq_true (by first | (with_reducible assumption) | assumption)
                    have q157 : x4_1 < (l0.length : Int) := of_decide_eq_true (by first | (with_reducible assumption) | assumption)
                    obtain ⟨ad157, A157_0, c157_0, e157, hx157_0, hl157_0, hi157_0⟩ := at_L3 HR0.out x4_1 p157 q157
                    cases e157
                    replace hx157_0 := (HB.out.cell (World.block_lt_of_cell? w _ hx157_0)).trans hx157_0
                    have HR157_0 := Aside0.mk hi157_0
                    have HC157_0 := Aside0.mk hl157_0
                    clear hi157_0 hl157_0
                    replace p157 := eq_true p157
                    replace q157 := eq_true q157
                    obtain ⟨Ao15, co15, eo15⟩ := Kd.R_slice HO_5.out
                    subst eo15
                    go_wp2_with (first | ((with_reducible refine gate_builtin (b := .append) (xs := #[.tmp 38, .tmp 40]) rfl ?_); at_builtin; refine Kd.S_append (Kd.slice 30 (Kd.int .u64)) (w0 := w) w.heap.size rfl (.tmp 38) (.tmp 40) 44 49 (.slice none 0 0) 24 rfl Try.underlying44 info49 rfl (by decide) (by omega) u3 x3_1 x5_2 [.slice Ao15 x5_2.length co15] (fun _ => True) (fun k_ => some k_ = (.slice Ao15 x5_2.length co15 : Value).ownBlock) rfl rfl ?aP (fun k_ hk_ => ((Kd.R_mono (ok' := fun k_ => ((fun _ => True)) k_ ∧ some k_ ≠ (u3 : Value).ownBlock) (Kd.R_apart' (HO_5.out) (Kd.S_typed HO_3.out) (by decide)) (fun k_ hk => ⟨trivial, hk.2⟩))).1 k_ hk_.symm) ?aF ?aO ?aB ?aS ?aL ?_; (case aP => exact Kd.M_row (Kd.R_mono (Kd.R_tight rfl (Kd.R_mono (ok' := fun k_ => ((fun _ => True)) k_ ∧ some k_ ≠ (u3 : Value).ownBlock) (Kd.R_apart' (HO_5.out) (Kd.S_typed HO_3.out) (by decide)) (fun k_ hk => ⟨trivial, hk.2⟩))) (fun _ h_ => h_))); (case aB => exact (by repeat (first | (with_reducible first | exact HB.out | apply below_alloc | apply pw_below_drewN | apply below_drew1) | exact HB.out))); (case aF => exact (fun _ _ => trivial)); (case aO => exact (by (with_reducible repeat (first | apply Kd.S_alloc | apply Kd.S_drewN | apply Kd.S_drew)); exact Kd.S_mono HO_3.out (fun k_ hk => ⟨trivial, fun e_ => hk e_⟩))); (case aS => exact (below_size (by repeat (first | (with_reducible first | exact HB.out | apply below_alloc | apply pw_below_drewN | apply below_drew1) | exact HB.out)))); (case aL => have := LMc13.out; omega); intro v164 w14 ho hb hg hat; rw [← Ny163.out] at ho; have n0_ := Aside0.mk (hb); have n1_ := Aside0.mk (ho); clear HB; clear HO_3; clear HO_5; have HB := n0_; have HO165 := n1_; clear n0_ n1_; clear ho hb hg hat))
                    go_roundg k2
                    case measure => have := HK1.out; have := HK2.out; omega
                    case rel => exact ⟨(y163), (wrap64 (x4_1 + 1)), (by first | rfl | (simp; done) | (simp [*]; done)), H', ⟨by have := HK1.out; have := HK2.out; omega⟩, ⟨by (with_reducible repeat (first | apply Kd.S_alloc | apply Kd.S_drewN | apply Kd.S_drew)); exact HO165.out⟩, ⟨by repeat (first | (with_reducible first | exact HB.out | apply below_alloc | apply pw_below_drewN | apply below_drew1) | exact HB.out)⟩⟩
                  · rw [if_neg c13] at H
                    exact absurd H (by simp)
              · rw [if_neg c8] at H
                exact absurd H (by simp)
            · rw [if_neg c7] at H
              exact absurd H (by simp)
      · rw [if_neg c4] at H
        have c4b0 : decide (x4_1 < (l0.length : Int)) = false := decide_eq_false c4
        clear c4
        replace H := Option.bind_eq_some_iff.mp H
        obtain ⟨t166, A160, H⟩ := H
        replace H : (inclineref13_Entries.l2 k1 l0 t166 (([] : List (S32))) 0) = some r := H
        have A16 := Aside0.mk A160
        clear A160
        obtain ⟨y169, hy169⟩ : ∃ y_ : List (S32), y_ = (([] : List (S32))) := ⟨_, rfl⟩
        replace H : (inclineref13_Entries.l2 k1 l0 t166 y169 0) = some r := by first | (rw [hy169]; with_reducible exact H) | (have H2_ := (Option.bind_some _ _).symm.trans H; rw [hy169]; with_reducible exact H2_) | (have H2_ := (Option.bind_some _ _).symm.trans H; with_reducible exact H2_) | with_reducible exact H | (rw [hy169]; exact H) | exact H
        have Ny169 := Aside0.mk hy169
        clear hy169
        have H' := Aside0.mk H
        clear H
        obtain ⟨Ao17, co17, eo17⟩ := Kd.S_slice HO_3.out
        subst eo17
        go_wp2_with (first | ((with_reducible refine gate_callee (f := 21) rfl ?_); refine goesL_ (some 43) rfl rfl Try.func21 (by kernel_rfl) rfl #[.slice Ao17 x3_1.length co17] rfl (by (try simp only [List.map_toArray, List.map_cons, List.map_nil]); first | done | rfl | (simp only [List.length_drop, List.length_take]; rfl)) ?_; (with_reducible refine (inclineref13_Merge.calls k1 _ _ x3_1 t166 _ ?side1 ?side2 A16.out).mono ?_); (case side1 => repeat (first | exact (Kd.S_reads' HO_3.out).2.2 | (with_reducible refine Kd.C_alloc ?_ _) | (with_reducible refine Kd.C_drewN ?_ _) | (with_reducible refine Kd.C_drew ?_))); (case side2 => exact (Kd.S_reads' HO_3.out).2.1); rintro e w18 ⟨v167, rfl, ho0, hb⟩; refine ⟨_, rfl, ?_⟩; have n0_ := Aside0.mk (Kd.S_below (by (with_reducible repeat (first | apply Kd.S_alloc | apply Kd.S_drewN | apply Kd.S_drew)); exact HO_3.out) hb); have n1_ := Aside0.mk (Kd.R_lower ho0 (below_size (by repeat (first | (with_reducible first | exact HB.out | apply below_alloc | apply pw_below_drewN | apply below_drew1) | exact HB.out)))); have n2_ := Aside0.mk (below_step (by repeat (first | (with_reducible first | exact HB.out | apply below_alloc | apply pw_below_drewN | apply below_drew1) | exact HB.out)) hb); clear HO_3; clear HB; have HO_3 := n0_; have HO168 := n1_; have HB := n2_; clear n0_ n1_ n2_; (try clear hb); (try clear hb2); (try clear hk); (try clear hi); (try clear ho0)) | ((with_reducible refine gate_dst (N := 44) rfl ?_); refine Kd.R_lit k32 _ 32 ?hg (N := 44) ?hd (xs := ([] : List (S32))) (inner := []) (ok := fun _ => True) (okp := fun _ => True) ?hr ?hp (fun _ hk => hk) trivial (Below.refl _ _) (Nat.le_refl _) (by simp) ?_; (case hd => rfl); (case hg => rfl); (case hr => first | (go_simp; done) | (go_simp; rfl)); (case hp => exact (Reps.none _ _)); intro v170 w19 ho20 hb hg_ hnew_; clear hg_ hnew_; (first | rw [← Ny169.out] at ho20 | (simp only [Int.reduceToNat] at ho20; rw [← Ny169.out] at ho20)); have n0_ := Aside0.mk (Kd.S_below (by (with_reducible repeat (first | apply Kd.S_alloc | apply Kd.S_drewN | apply Kd.S_drew)); exact HO_3.out) hb); have n1_ := Aside0.mk (Kd.R_below (by (with_reducible repeat (first | apply Kd.R_alloc | apply Kd.R_drewN | apply Kd.R_drew)); exact HO168.out) hb); have n2_ := Aside0.mk (Kd.R_lower ho20 (below_size (by repeat (first | (with_reducible first | exact HB.out | apply below_alloc | apply pw_below_drewN | apply below_drew1) | exact HB.out)))); have n3_ := Aside0.mk (below_step (by repeat (first | (with_reducible first | exact HB.out | apply below_alloc | apply pw_below_drewN | apply below_drew1) | exact HB.out)) hb); clear HO_3; clear HO168; clear HB; have HO_3 := n0_; have HO168 := n1_; have HO171 := n2_; have HB := n3_; clear n0_ n1_ n2_ n3_; clear hb ho20))
        go_loopg [8, 9] k1 (fun kq v8 v9 w' => ∃ (x8_2 : List (S32)) (x9_2 : Int), v9 = .int .i64 x9_2 ∧ Aside0 (inclineref13_Entries.l2 kq l0 t166 x8_2 x9_2 = some r) ∧ Aside0 (kq ≤ k1) ∧ Aside0 (Kd.R k54 54 w' w.heap.size (fun _ => True) v167 t166) ∧ Aside0 (Kd.R k32 32 w' w.heap.size (fun _ => True) v8 x8_2) ∧ Aside0 (Below w.heap.size w w'))
        case atStart => exact ⟨(y169), (0), (by first | rfl | (simp; done) | (simp [*]; done)), H', ⟨Nat.le_refl _⟩, ⟨by (with_reducible repeat (first | apply Kd.R_alloc | apply Kd.R_drewN | apply Kd.R_drew)); exact HO168.out⟩, ⟨by (with_reducible repeat (first | apply Kd.R_alloc | apply Kd.R_drewN | apply Kd.R_drew)); exact HO171.out⟩, ⟨by repeat (first | (with_reducible first | exact HB.out | apply below_alloc | apply pw_below_drewN | apply below_drew1) | exact HB.out)⟩⟩
        case round =>
          clear H'
          try clear c1
          try clear p1
          try clear q1
          try clear hx1
          try clear c2
          try clear p2
          try clear c4
          try clear c4b0
          try clear p6
          try clear c7
          try clear c7b0
          try clear c8
          try clear c8b0
          try clear c9
          try clear c9b0
          try clear c10
          try clear c10b0
          try clear c11
          try clear c12
          try clear c13
          try clear c15
          try clear p15
          try clear q15
          try clear hx15
          try clear hx157_0
          try clear hx158_0
          try clear hx159_0
          try clear hx159_1
          try clear hx159_2
          try clear p157
          try clear p158
          try clear p159
          try clear p2
          try clear q157
          try clear q158
          try clear q159
          obtain ⟨x8_2, x9_2, rfl, HA, HK2, HO_7, HO_8, HB⟩ := hrel
          cases gk with
          | zero => exact absurd HA.out (by simp [inclineref13_Entries.l2])
          | succ k2 =>
            have H := HA.out
            clear HA
            simp only [inclineref13_Entries.l2] at H
            by_cases c21 : x9_2 < (t166.length : Int)
            · rw [if_pos c21] at H
              have c21b0 : decide (x9_2 < (t166.length : Int)) = true := decide_eq_true c21
              clear c21
              by_cases c22 : 0 ≤ x9_2
              · rw [if_pos c22] at H
                have c22b0 : decide (0 ≤ x9_2) = true := decide_eq_true c22
                clear c22
                by_cases c23 : 0 ≤ ((rd_T54 t166 x9_2).f0)
                · rw [if_pos c23] at H
                  have c23b0 : decide (0 ≤ ((rd_T54 t166 x9_2).f0)) = true := decide_eq_true c23
                  clear c23
                  by_cases c24 : ((rd_T54 t166 x9_2).f0) < (l0.length : Int)
                  · rw [if_pos c24] at H
                    have c24b0 : decide (((rd_T54 t166 x9_2).f0) < (l0.length : Int)) = true := decide_eq_true c24
                    clear c24
                    by_cases c25 : 0 ≤ ((rd_T54 t166 x9_2).f1)
                    · rw [if_pos c25] at H
                      have c25b0 : decide (0 ≤ ((rd_T54 t166 x9_2).f1)) = true := decide_eq_true c25
                      clear c25
                      by_cases c26 : ((rd_T54 t166 x9_2).f1) < ((rd_L3 l0 ((rd_T54 t166 x9_2).f0)).length : Int)
                      · rw [if_pos c26] at H
                        have c26b0 : decide (((rd_T54 t166 x9_2).f1) < ((rd_L3 l0 ((rd_T54 t166 x9_2).f0)).length : Int)) = true := decide_eq_true c26
                        clear c26
                        by_cases c27 : x8_2.length < 5864062014805
                        · rw [if_pos c27] at H
                          have LMc27 := Aside0.mk c27
                          clear c27
                          obtain ⟨y176, hy176⟩ : ∃ y_ : List (S32), y_ = (x8_2 ++ [(⟨(rd_T32 (rd_L3 l0 ((rd_T54 t166 x9_2).f0)) ((rd_T54 t166 x9_2).f1)).f0, (rd_T32 (rd_L3 l0 ((rd_T54 t166 x9_2).f0)) ((rd_T54 t166 x9_2).f1)).f1, (rd_T32 (rd_L3 l0 ((rd_T54 t166 x9_2).f0)) ((rd_T54 t166 x9_2).f1)).f2⟩ : S32)]) := ⟨_, rfl⟩
                          replace H : (inclineref13_Entries.l2 k2 l0 t166 y176 (wrap64 (x9_2 + 1))) = some r := by first | (rw [hy176]; with_reducible exact H) | (have H2_ := (Option.bind_some _ _).symm.trans H; rw [hy176]; with_reducible exact H2_) | (have H2_ := (Option.bind_some _ _).symm.trans H; with_reducible exact H2_) | with_reducible exact H | (rw [hy176]; exact H) | exact H
                          have Ny176 := Aside0.mk hy176
                          clear hy176
                          have H' := Aside0.mk H
                          clear H
                          obtain ⟨Ao28, co28, eo28⟩ := Kd.R_slice HO_7.out
                          subst eo28
                          try go_wp2
                          have n0_ := Aside0.mk (Kd.R_drew HO_7.out)
                          have n1_ := Aside0.mk (Kd.R_drew HO_8.out)
                          have n2_ := Aside0.mk (below_drew1 HB.out)
                          clear HO_7
                          clear HO_8
                          clear HB
                          have HO_7 := n0_
                          have HO_8 := n1_
                          have HB := n2_
                          clear n0_ n1_ n2_
                          have p172 : 0 ≤ (x9_2 : Int) := of_decide_eq_true (by first | (with_reducible assumption) | assumption)
                          have q172 : x9_2 < (t166.length : Int) := of_decide_eq_true (by first | (with_reducible assumption) | assumption)
                          obtain ⟨ad172, e172, hx172_0, hx172_1⟩ := at_T54 (Kd.R_reads' HO_7.out).2.2 x9_2 p172 q172
                          cases e172
                          replace p172 := eq_true p172
                          replace q172 := eq_true q172
                          have p173 : 0 ≤ (((rd_T54 t166 x9_2).f0) : Int) := of_decide_eq_true (by first | (with_reducible assumption) | assumption)
                          have q173 : ((rd_T54 t166 x9_2).f0) < (l0.length : Int) := of_decide_eq_true (by first | (with_reducible assumption) | assumption)
                          obtain ⟨ad173, A173_0, c173_0, e173, hx173_0, hl173_0, hi173_0⟩ := at_L3 HR0.out ((rd_T54 t166 x9_2).f0) p173 q173
                          have hw173_0 := hx173_0
                          cases e173
                          replace hx173_0 := (HB.out.cell (World.block_lt_of_cell? w _ hx173_0)).trans hx173_0
                          have HR173_0 := Aside0.mk hi173_0
                          have HC173_0 := Aside0.mk hl173_0
                          clear hi173_0 hl173_0
                          replace p173 := eq_true p173
                          replace q173 := eq_true q173
                          have p174 : 0 ≤ (x9_2 : Int) := of_decide_eq_true (by first | (with_reducible assumption) | assumption)
                          have q174 : x9_2 < (t166.length : Int) := of_decide_eq_true (by first | (with_reducible assumption) | assumption)
                          obtain ⟨ad174, e174, hx174_0, hx174_1⟩ := at_T54 (Kd.R_reads' HO_7.out).2.2 x9_2 p174 q174
                          obtain rfl : ad172 = ad174 := (by injection e174)
                          replace p174 := eq_true p174
                          replace q174 := eq_true q174
                          have p175 : 0 ≤ (((rd_T54 t166 x9_2).f1) : Int) := of_decide_eq_true (by first | (with_reducible assumption) | assumption)
                          have q175 : ((rd_T54 t166 x9_2).f1) < ((rd_L3 l0 ((rd_T54 t166 x9_2).f0)).length : Int) := of_decide_eq_true (by first | (with_reducible assumption) | assumption)
                          obtain ⟨ad175, e175, hx175_0, hx175_1, hx175_2⟩ := at_T32 HR173_0.out ((rd_T54 t166 x9_2).f1) p175 q175
                          have hw175_2 := hx175_2
                          have hw175_1 := hx175_1
                          have hw175_0 := hx175_0
                          cases e175
                          replace hx175_0 := (HB.out.cell (World.block_lt_of_cell? w _ hx175_0)).trans hx175_0
                          replace hx175_1 := (HB.out.cell (World.block_lt_of_cell? w _ hx175_1)).trans hx175_1
                          replace hx175_2 := (HB.out.cell (World.block_lt_of_cell? w _ hx175_2)).trans hx175_2
                          replace p175 := eq_true p175
                          replace q175 := eq_true q175
                          refine start_ (n := 19) (S := fun w' => w'.cell? (ad172.add ((x9_2).toNat * 2)) = some (.int .i64 ((rd_T54 t166 x9_2).f0)) ∧ w'.cell? ⟨(ad172.add ((x9_2).toNat * 2)).block, (ad172.add ((x9_2).toNat * 2)).off + 1, none⟩ = some (.int .i64 ((rd_T54 t166 x9_2).f1)) ∧ w'.cell? (ad173.add (((rd_T54 t166 x9_2).f0)).toNat) = some (.slice (some ad175) (rd_L3 l0 ((rd_T54 t166 x9_2).f0)).length c173_0) ∧ w'.cell? (ad172.add ((x9_2).toNat * 2)) = some (.int .i64 ((rd_T54 t166 x9_2).f0)) ∧ w'.cell? ⟨(ad172.add ((x9_2).toNat * 2)).block, (ad172.add ((x9_2).toNat * 2)).off + 1, none⟩ = some (.int .i64 ((rd_T54 t166 x9_2).f1)) ∧ w'.cell? (ad175.add ((((rd_T54 t166 x9_2).f1)).toNat * 3)) = some (.int .u64 ((rd_T32 (rd_L3 l0 ((rd_T54 t166 x9_2).f0)) ((rd_T54 t166 x9_2).f1)).f0)) ∧ w'.cell? ⟨(ad175.add ((((rd_T54 t166 x9_2).f1)).toNat * 3)).block, (ad175.add ((((rd_T54 t166 x9_2).f1)).toNat * 3)).off + 1, none⟩ = some (.int .u64 ((rd_T32 (rd_L3 l0 ((rd_T54 t166 x9_2).f0)) ((rd_T54 t166 x9_2).f1)).f1)) ∧ w'.cell? ⟨(ad175.add ((((rd_T54 t166 x9_2).f1)).toNat * 3)).block, (ad175.add ((((rd_T54 t166 x9_2).f1)).toNat * 3)).off + 2, none⟩ = some (.bool ((rd_T32 (rd_L3 l0 ((rd_T54 t166 x9_2).f0)) ((rd_T54 t166 x9_2).f1)).f2))) (ds := [16, 17]) #[false, false, false, false, false, false, false, false, false, false, false, false, false, false, false, false, false, false, false] (by kernel_rfl) rfl rfl ⟨hx172_0, hx172_1, ((HB.out.cell (World.block_lt_of_cell? w _ hw173_0)).trans hw173_0), hx174_0, hx174_1, ((HB.out.cell (World.block_lt_of_cell? w _ hw175_0)).trans hw175_0), ((HB.out.cell (World.block_lt_of_cell? w _ hw175_1)).trans hw175_1), ((HB.out.cell (World.block_lt_of_cell? w _ hw175_2)).trans hw175_2)⟩ (fun hHeld => ?_); refine with_tabW inclineref13_Entries.tab16 inclineref13_Entries.bits16 (fun HT_ HW_ => ?_)
                          generalize wr.drew = w29 at HO_7 HO_8 HB HR173_0 hx172_0 hx172_1 hx173_0 hx174_0 hx174_1 hx175_0 hx175_1 hx175_2 hHeld ⊢
                          refine pure_ (i := 0) (N := some 51) (v := ?_) (a' := ?_) #[true, false, false, false, false, false, false, false, false, false, false, false, false, false, false, false, false, false, false] rfl rfl (any_of HT_.out (by kernel_rfl)) (fun _ _ _ h => h) (Or.inl ⟨by rfl, ?_⟩) ?_ ?_
                          rotate_left
                          · intro w'
                            go_simp
                            with_reducible rfl
                          rotate_left
                          · simp only [Act.put, List.setIfInBounds_toArray, List.set_cons_zero, List.set_cons_succ, i64_w, i32_w]
                            rfl
                          refine pure_ (i := 1) (N := some 52) (v := ?_) (a' := ?_) #[true, true, false, false, false, false, false, false, false, false, false, false, false, false, false, false, false, false, false] rfl rfl (any_of HT_.out (by kernel_rfl)) (fun _ _ _ h => h) (Or.inl ⟨by rfl, ?_⟩) ?_ ?_
                          rotate_left
                          · intro w'
                            go_simp
                            with_reducible rfl
                          rotate_left
                          · simp only [Act.put, List.setIfInBounds_toArray, List.set_cons_zero, List.set_cons_succ, i64_w, i32_w]
                            rfl
                          refine pure_ (i := 2) (N := some 53) (v := ?_) (a' := ?_) #[true, true, true, false, false, false, false, false, false, false, false, false, false, false, false, false, false, false, false] rfl rfl (any_of HT_.out (by kernel_rfl)) (fun _ _ _ h => h) (Or.inl ⟨by rfl, ?_⟩) ?_ ?_
                          rotate_left
                          · intro w'
                            go_simp
                            with_reducible rfl
                          rotate_left
                          · simp only [Act.put, List.setIfInBounds_toArray, List.set_cons_zero, List.set_cons_succ, i64_w, i32_w]
                            rfl
                          refine pure_ (i := 3) (N := some 54) (v := ?_) (a' := ?_) #[true, true, true, true, false, false, false, false, false, false, false, false, false, false, false, false, false, false, false] rfl rfl (any_of HT_.out (by kernel_rfl)) (fun _ _ _ h => h) (Or.inl ⟨by rfl, ?_⟩) ?_ ?_
                          rotate_left
                          · intro w'
                            go_simp
                            with_reducible rfl
                          rotate_left
                          · simp only [Act.put, List.setIfInBounds_toArray, List.set_cons_zero, List.set_cons_succ, i64_w, i32_w]
                            rfl
                          refine pure_ (i := 4) (N := some 55) (v := ?_) (a' := ?_) #[true, true, true, true, true, false, false, false, false, false, false, false, false, false, false, false, false, false, false] rfl rfl (any_of HT_.out (by kernel_rfl)) (fun _ _ _ h => h) (Or.inl ⟨by rfl, ?_⟩) ?_ ?_
                          rotate_left
                          · intro w'
                            go_simp
                            with_reducible rfl
                          rotate_left
                          · simp only [Act.put, List.setIfInBounds_toArray, List.set_cons_zero, List.set_cons_succ, i64_w, i32_w]
                            rfl
                          refine pure_ (i := 5) (N := some 56) (v := ?_) (a' := ?_) #[true, true, true, true, true, true, false, false, false, false, false, false, false, false, false, false, false, false, false] rfl rfl (any_of HT_.out (by kernel_rfl)) (fun _ _ _ h => h) (Or.inl ⟨by rfl, ?_⟩) ?_ ?_
                          rotate_left
                          · intro w'
                            go_simp
                            with_reducible rfl
                          rotate_left
                          · simp only [Act.put, List.setIfInBounds_toArray, List.set_cons_zero, List.set_cons_succ, i64_w, i32_w]
                            rfl
                          refine pure_ (i := 9) (N := some 60) (v := ?_) (a' := ?_) #[true, true, true, true, true, true, false, false, false, true, false, false, false, false, false, false, false, false, false] rfl rfl (any_of HT_.out (by kernel_rfl)) (fun _ _ _ h => h) (Or.inl ⟨by rfl, ?_⟩) ?_ ?_
                          rotate_left
                          · intro w'
                            go_simp
                            with_reducible rfl
                          rotate_left
                          · simp only [Act.put, List.setIfInBounds_toArray, List.set_cons_zero, List.set_cons_succ, i64_w, i32_w]
                            rfl
                          refine pure_ (i := 10) (N := some 61) (v := ?_) (a' := ?_) #[true, true, true, true, true, true, false, false, false, true, true, false, false, false, false, false, false, false, false] rfl rfl (any_of HT_.out (by kernel_rfl)) (fun _ _ _ h => h) (Or.inl ⟨by rfl, ?_⟩) ?_ ?_
                          rotate_left
                          · intro w'
                            go_simp
                            with_reducible rfl
                          rotate_left
                          · simp only [Act.put, List.setIfInBounds_toArray, List.set_cons_zero, List.set_cons_succ, i64_w, i32_w]
                            rfl
                          refine pure_ (i := 11) (N := some 62) (v := ?_) (a' := ?_) #[true, true, true, true, true, true, false, false, false, true, true, true, false, false, false, false, false, false, false] rfl rfl (any_of HT_.out (by kernel_rfl)) (fun _ _ _ h => h) (Or.inl ⟨by rfl, ?_⟩) ?_ ?_
                          rotate_left
                          · intro w'
                            go_simp
                            with_reducible rfl
                          rotate_left
                          · simp only [Act.put, List.setIfInBounds_toArray, List.set_cons_zero, List.set_cons_succ, i64_w, i32_w]
                            rfl
                          refine pure_ (i := 12) (N := some 63) (v := ?_) (a' := ?_) #[true, true, true, true, true, true, false, false, false, true, true, true, true, false, false, false, false, false, false] rfl rfl (any_of HT_.out (by kernel_rfl)) (fun _ _ _ h => h) (Or.inl ⟨by rfl, ?_⟩) ?_ ?_
                          rotate_left
                          · intro w'
                            go_simp
                            with_reducible rfl
                          rotate_left
                          · simp only [Act.put, List.setIfInBounds_toArray, List.set_cons_zero, List.set_cons_succ, i64_w, i32_w]
                            rfl
                          refine take_ (i := 6) (N := some 57) (v := ?_) (a' := ?_) #[true, true, true, true, true, true, true, false, false, true, true, true, true, false, false, false, false, false, false] rfl rfl (take_ofW HT_.out HW_.out (by kernel_rfl)) (fun _ _ _ h => h) (Or.inl ⟨by rfl, ?_⟩) hHeld ?_ ?_
                          rotate_left
                          · rintro w' ⟨s0, s1, s2, s3, s4, s5, s6, s7⟩
                            go_simp
                            with_reducible rfl
                          rotate_left
                          · simp only [Act.put, List.setIfInBounds_toArray, List.set_cons_zero, List.set_cons_succ, i64_w, i32_w]
                            rfl
                          refine pure_ (i := 7) (N := some 58) (v := ?_) (a' := ?_) #[true, true, true, true, true, true, true, true, false, true, true, true, true, false, false, false, false, false, false] rfl rfl (any_of HT_.out (by kernel_rfl)) (fun _ _ _ h => h) (Or.inl ⟨by rfl, ?_⟩) ?_ ?_
                          rotate_left
                          · intro w'
                            go_simp
                            with_reducible rfl
                          rotate_left
                          · simp only [Act.put, List.setIfInBounds_toArray, List.set_cons_zero, List.set_cons_succ, i64_w, i32_w]
                            rfl
                          refine take_ (i := 8) (N := some 59) (v := ?_) (a' := ?_) #[true, true, true, true, true, true, true, true, true, true, true, true, true, false, false, false, false, false, false] rfl rfl (take_ofW HT_.out HW_.out (by kernel_rfl)) (fun _ _ _ h => h) (Or.inl ⟨by rfl, ?_⟩) hHeld ?_ ?_
                          rotate_left
                          · rintro w' ⟨s0, s1, s2, s3, s4, s5, s6, s7⟩
                            go_simp
                            with_reducible rfl
                          rotate_left
                          · simp only [Act.put, List.setIfInBounds_toArray, List.set_cons_zero, List.set_cons_succ, i64_w, i32_w]
                            rfl
                          refine take_ (i := 13) (N := some 64) (v := ?_) (a' := ?_) #[true, true, true, true, true, true, true, true, true, true, true, true, true, true, false, false, false, false, false] rfl rfl (take_ofW HT_.out HW_.out (by kernel_rfl)) (fun _ _ _ h => h) (Or.inl ⟨by rfl, ?_⟩) hHeld ?_ ?_
                          rotate_left
                          · rintro w' ⟨s0, s1, s2, s3, s4, s5, s6, s7⟩
                            go_simp
                            with_reducible rfl
                          rotate_left
                          · simp only [Act.put, List.setIfInBounds_toArray, List.set_cons_zero, List.set_cons_succ, i64_w, i32_w]
                            rfl
                          refine pure_ (i := 14) (N := some 65) (v := ?_) (a' := ?_) #[true, true, true, true, true, true, true, true, true, true, true, true, true, true, true, false, false, false, false] rfl rfl (any_of HT_.out (by kernel_rfl)) (fun _ _ _ h => h) (Or.inl ⟨by rfl, ?_⟩) ?_ ?_
                          rotate_left
                          · intro w'
                            go_simp
                            with_reducible rfl
                          rotate_left
                          · simp only [Act.put, List.setIfInBounds_toArray, List.set_cons_zero, List.set_cons_succ, i64_w, i32_w]
                            rfl
                          refine take_ (i := 15) (N := some 66) (v := ?_) (a' := ?_) #[true, true, true, true, true, true, true, true, true, true, true, true, true, true, true, true, false, false, false] rfl rfl (take_ofW HT_.out HW_.out (by kernel_rfl)) (fun _ _ _ h => h) (Or.inl ⟨by rfl, ?_⟩) hHeld ?_ ?_
                          rotate_left
                          · rintro w' ⟨s0, s1, s2, s3, s4, s5, s6, s7⟩
                            go_simp
                            with_reducible rfl
                          rotate_left
                          · simp only [Act.put, List.setIfInBounds_toArray, List.set_cons_zero, List.set_cons_succ, i64_w, i32_w]
                            rfl
                          refine last_ (i := 16) (N := some 67) #[true, true, true, true, true, true, true, true, true, true, true, true, true, true, true, true, true, false, false] rfl rfl (one_of HT_.out (by kernel_rfl)) (by decide) (fun K hK => ?_)
                          refine value_ (w1 := ?_) (v := ?_) (by rfl) rfl ?_ ?_
                          rotate_left 2
                          · go_simp
                            constructor
                            · rfl
                            · rfl
                          refine hK.out _ _ ?_
                          clear hK K
                          refine norm_ (a' := ?_) ?_ ?_
                          rotate_left
                          · show Act.put _ (some 67) _ = _
                            simp only [Act.put, List.setIfInBounds_toArray, List.set_cons_zero, List.set_cons_succ, i64_w, i32_w]
                            rfl
                          refine last_ (i := 17) (N := some 68) #[true, true, true, true, true, true, true, true, true, true, true, true, true, true, true, true, true, true, false] rfl rfl (one_of HT_.out (by kernel_rfl)) (by decide) (fun K hK => ?_)
                          refine Kd.R_append_step k32 (w0 := w) w.heap.size (by rfl) (.tmp 51) (.tmp 67) 25 32 (.agg #[(.int .u64 0), (.int .u64 0), (.bool false)]) 24 rfl Try.underlying25 info32 rfl (by decide) (by omega) u8 x8_2 (⟨(rd_T32 (rd_L3 l0 ((rd_T54 t166 x9_2).f0)) ((rd_T54 t166 x9_2).f1)).f0, (rd_T32 (rd_L3 l0 ((rd_T54 t166 x9_2).f0)) ((rd_T54 t166 x9_2).f1)).f1, (rd_T32 (rd_L3 l0 ((rd_T54 t166 x9_2).f0)) ((rd_T54 t166 x9_2).f1)).f2⟩ : S32) [.int .u64 ((rd_T32 (rd_L3 l0 ((rd_T54 t166 x9_2).f0)) ((rd_T54 t166 x9_2).f1)).f0), .int .u64 ((rd_T32 (rd_L3 l0 ((rd_T54 t166 x9_2).f0)) ((rd_T54 t166 x9_2).f1)).f1), .bool ((rd_T32 (rd_L3 l0 ((rd_T54 t166 x9_2).f0)) ((rd_T54 t166 x9_2).f1)).f2)] (fun _ => True) (fun _ => False) rfl rfl ?aP (fun _ hk => hk.elim) ?aF ?aO ?aB ?aS ?aL ?_
                          (case aP => exact k32_mkM _ _ _ (⟨(rd_T32 (rd_L3 l0 ((rd_T54 t166 x9_2).f0)) ((rd_T54 t166 x9_2).f1)).f0, (rd_T32 (rd_L3 l0 ((rd_T54 t166 x9_2).f0)) ((rd_T54 t166 x9_2).f1)).f1, (rd_T32 (rd_L3 l0 ((rd_T54 t166 x9_2).f0)) ((rd_T54 t166 x9_2).f1)).f2⟩ : S32))
                          (case aB => exact (by repeat (first | (with_reducible first | exact HB.out | apply below_alloc | apply pw_below_drewN | apply below_drew1) | exact HB.out)))
                          (case aF => exact (fun _ _ => trivial))
                          (case aO => exact (by (with_reducible repeat (first | apply Kd.R_alloc | apply Kd.R_drewN | apply Kd.R_drew)); exact HO_8.out))
                          (case aS => exact (below_size (by repeat (first | (with_reducible first | exact HB.out | apply below_alloc | apply pw_below_drewN | apply below_drew1) | exact HB.out))))
                          (case aL => have := LMc27.out; omega)
                          intro v177 w30 ho hb hg hat
                          rw [← Ny176.out] at ho
                          have n0_ := Aside0.mk (Kd.R_over' (by (with_reducible repeat (first | apply Kd.R_alloc | apply Kd.R_drewN | apply Kd.R_drew)); exact HO_7.out) (Kd.R_typed (by (with_reducible repeat (first | apply Kd.R_alloc | apply Kd.R_drewN | apply Kd.R_drew)); exact HO_8.out)) (by decide) hg)
                          have n1_ := Aside0.mk (hb)
                          have n2_ := Aside0.mk (ho)
                          clear HO_7
                          clear HB
                          clear HO_8
                          have HO_7 := n0_
                          have HB := n1_
                          have HO178 := n2_
                          clear n0_ n1_ n2_
                          clear ho hb hg hat
                          refine hK.out _ _ ?_
                          clear hK K
                          refine norm_ (a' := ?_) ?_ ?_
                          rotate_left
                          · show Act.put _ (some 68) _ = _
                            simp only [Act.put, List.setIfInBounds_toArray, List.set_cons_zero, List.set_cons_succ, i64_w, i32_w]
                            rfl
                          refine pure_ (i := 18) (N := some 8) (v := ?_) (a' := ?_) #[true, true, true, true, true, true, true, true, true, true, true, true, true, true, true, true, true, true, true] rfl rfl (any_of HT_.out (by kernel_rfl)) (fun _ _ _ h => h) (Or.inl ⟨by rfl, ?_⟩) ?_ ?_
                          rotate_left
                          · intro w'
                            go_simp
                            with_reducible rfl
                          rotate_left
                          · simp only [Act.put, List.setIfInBounds_toArray, List.set_cons_zero, List.set_cons_succ, i64_w, i32_w]
                            rfl
                          refine done_ (done_of HT_.out (by kernel_rfl)) ?_
                          try go_wp2
                          go_roundg k2
                          case measure => have := HK1.out; have := HK2.out; omega
                          case rel => exact ⟨(y176), (wrap64 (x9_2 + 1)), (by first | rfl | (simp; done) | (simp [*]; done)), H', ⟨by have := HK1.out; have := HK2.out; omega⟩, ⟨by (with_reducible repeat (first | apply Kd.R_alloc | apply Kd.R_drewN | apply Kd.R_drew)); exact HO_7.out⟩, ⟨by (with_reducible repeat (first | apply Kd.R_alloc | apply Kd.R_drewN | apply Kd.R_drew)); exact HO178.out⟩, ⟨by repeat (first | (with_reducible first | exact HB.out | apply below_alloc | apply pw_below_drewN | apply below_drew1) | exact HB.out)⟩⟩
                        · rw [if_neg c27] at H
                          exact absurd H (by simp)
                      · rw [if_neg c26] at H
                        exact absurd H (by simp)
                    · rw [if_neg c25] at H
                      exact absurd H (by simp)
                  · rw [if_neg c24] at H
                    exact absurd H (by simp)
                · rw [if_neg c23] at H
                  exact absurd H (by simp)
              · rw [if_neg c22] at H
                exact absurd H (by simp)
            · rw [if_neg c21] at H
              have c21b0 : decide (x9_2 < (t166.length : Int)) = false := decide_eq_false c21
              clear c21
              obtain rfl := Option.some.inj H
              obtain ⟨Ao31, co31, eo31⟩ := Kd.R_slice HO_7.out
              subst eo31
              go_wp2
              go_ret
              exact ⟨_, by first | rfl | (simp [errW_none, errW_some] <;> rfl) | (simp [*, errW_none, errW_some] <;> rfl), by (with_reducible repeat (first | apply Kd.R_alloc | apply Kd.R_drewN | apply Kd.R_drew)); exact HO_8.out, by repeat (first | (with_reducible first | exact HB.out | apply below_alloc | apply pw_below_drewN | apply below_drew1) | exact HB.out)⟩

end Go.Proofs.Ytojbfjfjhfnopaa.G
end

section
/- Lists whose keys rise: what the reference and the walk of a law compute. -/
namespace Go.Proofs.Ytojbfjfjhfnopaa.Pure
open Go.RowKit Go.Proofs.Ytojbfjfjhfnopaa.G Go.Proofs.YtojbfjfjhfnopaaW.PrintWords Go.Proofs.YtojbfjfjhfnopaaW.PrintLast
open MergeL
set_option linter.unusedVariables false
theorem rise_iff (xs : List S32) : Rise S32.f0 xs ↔ Rises (keysOf xs) := by
  unfold Rise Rises keysOf
  rw [List.pairwise_iff_getElem]
  constructor
  · intro h i j hij hj
    have hj2 : j < xs.length := by simpa using hj
    have := h i j (by omega) hj2 hij
    simp only [List.getD_eq_getElem?_getD, List.getElem?_map, List.getElem?_eq_getElem hj2, List.getElem?_eq_getElem (show i < xs.length by omega)]
    exact this
  · intro h i j hi hj hij
    have := h i j hij (by simpa using hj)
    simp only [List.getD_eq_getElem?_getD, List.getElem?_map, List.getElem?_eq_getElem hj, List.getElem?_eq_getElem hi] at this
    exact this
theorem rise_length {α : Type} {key : α → Int} {xs ys : List α} (hx : Rise key xs) (hy : Rise key ys) (h : ∀ x ∈ xs, ∃ y ∈ ys, key y = key x) : xs.length ≤ ys.length := by
  induction ys generalizing xs with
  | nil =>
    cases xs with
    | nil => exact Nat.le_refl _
    | cons x s => obtain ⟨y, hy, _⟩ := h x List.mem_cons_self; cases hy
  | cons y t ih =>
    cases xs with
    | nil => exact Nat.zero_le _
    | cons x s =>
      have hx2 := List.pairwise_cons.1 hx
      have hy2 := List.pairwise_cons.1 hy
      refine Nat.succ_le_succ (ih hx2.2 hy2.2 fun z hz => ?_)
      obtain ⟨v, hv, e⟩ := h z (List.mem_cons_of_mem _ hz)
      obtain ⟨u, hu, e2⟩ := h x List.mem_cons_self
      have h1 := hx2.1 z hz
      rcases List.mem_cons.1 hv with rfl | hv
      · rcases List.mem_cons.1 hu with rfl | hu
        · omega
        · have := hy2.1 u hu; omega
      · exact ⟨v, hv, e⟩
theorem contains_iff (xs : List S32) (q : Int) : (keysOf xs).contains q = true ↔ find S32.f0 q xs ≠ none := by
  rw [List.contains_iff_mem, Ne, find_none]
  unfold keysOf
  rw [List.mem_map]
  constructor
  · rintro ⟨x, hx, e⟩ h; exact h x hx e
  · intro h
    apply Classical.byContradiction
    intro hn
    exact h fun x hx e => hn ⟨x, hx, e⟩
/-- Under a key's rank lies the thing that is found. -/
theorem rank_find {m : List S32} (hm : Rise S32.f0 m) {q : Int} {x : S32} (h : find S32.f0 q m = some x) : rankOf (keysOf m) q < m.length ∧ rd_T32 m (rankOf (keysOf m) q : Nat) = x := by
  have hr := (rise_iff m).1 hm
  have hc := (there_iff (keysOf m) q hr).1 ((contains_iff m q).2 (by rw [h]; simp))
  have hl : rankOf (keysOf m) q < m.length := by have := hc.1; simpa [keysOf] using this
  refine ⟨hl, ?_⟩
  rw [rd_get m _ hl]
  have hk : (m[rankOf (keysOf m) q]).f0 = q := by
    have := hc.2
    generalize rankOf (keysOf m) q = r at *
    simp only [keysOf, List.getD_eq_getElem?_getD, List.getElem?_map] at this
    rw [List.getElem?_eq_getElem hl] at this
    exact this
  have := find_mem hm (List.getElem_mem hl)
  rw [hk, h] at this
  exact (Option.some.inj this).symm
/-- For all fuel from some on. -/
def Ev (f : Nat → Option Bool) : Prop := ∃ K, ∀ k, K ≤ k → f k = some true
theorem Ev.succ {f g : Nat → Option Bool} (h : Ev g) (M : Nat) (hf : ∀ k, M ≤ k → g k = some true → f (k + 1) = some true) : Ev f := by
  obtain ⟨K, hK⟩ := h
  refine ⟨max K M + 1, fun k hk => ?_⟩
  obtain ⟨k, rfl⟩ : ∃ m, k = m + 1 := ⟨k - 1, by omega⟩
  exact hf k (by omega) (hK k (by omega))
theorem rd_L3_get (l : List (List S32)) (i : Nat) (h : i < l.length) : rd_L3 l (i : Int) = l[i] := by
  simp [rd_L3, List.getD_eq_getElem?_getD, List.getElem?_eq_getElem h]
section
variable (l : List (List S32)) (m : List S32)
/-- What is known of the lists and of their merge. -/
structure Known : Prop where
  small : l.length + (l.map List.length).sum ≤ 1048576
  rise : ∀ xs ∈ l, Rise S32.f0 xs
  eq : m = mergeL S32.f0 l
variable {l m}
theorem Known.each (h : Known l m) {i : Nat} (hi : i < l.length) : l[i].length ≤ 1048576 := by
  have h1 := len_le_total (List.getElem_mem hi)
  have := h.small
  unfold total at h1
  omega
theorem Known.mlen (h : Known l m) : m.length ≤ (l.map List.length).sum := by rw [h.eq]; exact mergeL_length l
theorem Known.mrise (h : Known l m) : Rise S32.f0 m := by rw [h.eq]; exact mergeL_rise h.rise
theorem Known.find_ (h : Known l m) (q : Int) : MergeL.find S32.f0 q m = MergeL.look S32.f0 q l := by rw [h.eq]; exact mergeL_find h.rise q
theorem look_at {q : Int} {x : S32} : ∀ (l : List (List S32)) (i : Nat) (hi : i < l.length), MergeL.find S32.f0 q l[i] = some x → (∀ j (hj : j < i), MergeL.find S32.f0 q (l[j]'(Nat.lt_trans hj hi)) = none) → MergeL.look S32.f0 q l = some x := by
  intro l
  induction l with
  | nil => intro i hi; simp at hi
  | cons a t ih =>
    intro i hi h1 h2
    cases i with
    | zero => simp only [MergeL.look]; rw [show MergeL.find S32.f0 q a = some x from h1]; rfl
    | succ i =>
      simp only [MergeL.look]
      rw [show MergeL.find S32.f0 q a = none from h2 0 (by omega), Option.none_or]
      exact ih i (by simpa using hi) h1 (fun j hj => h2 (j + 1) (by omega))
theorem look_mem {q : Int} {l : List (List S32)} {xs : List S32} {x : S32} (h1 : xs ∈ l) (h2 : x ∈ xs) (h3 : x.f0 = q) : MergeL.look S32.f0 q l ≠ none := by
  intro h
  exact look_none.1 h xs h1 x h2 h3
theorem of_is (xs : List S32) (h : xs.length ≤ 1048576) (k : Nat) (hk : 1048577 ≤ k) : inclineref03_Of.f k xs = some (keysOf xs) := refOf_f xs (by omega) k (by omega)
theorem rank_is (xs : List S32) (h : xs.length ≤ 1048576) (hr : Rise S32.f0 xs) (q : Int) (k : Nat) (hk : 1048577 ≤ k) : inclineref03_Rank.f k (keysOf xs) q = some ((rankOf (keysOf xs) q : Int), (keysOf xs).contains q) := by
  have hl : (keysOf xs).length = xs.length := by simp [keysOf]
  have := refRank_f (keysOf xs) q (by omega) k (by omega)
  rw [this, if_pos ((rises_iff _).2 ((rise_iff xs).1 hr))]
end
theorem rising_is (l : List (List S32)) (hs : l.length + (l.map List.length).sum ≤ 1048576) : ∀ (d i : Nat), i ≤ l.length → l.length ≤ i + d → ∀ k, 1048577 + d < k → inclinelaw13_rising.l0 k l i = some ((l.drop i).all fun xs => risesTo (keysOf xs) (keysOf xs).length) := by
  intro d
  induction d with
  | zero =>
    intro i hi hd k hk
    obtain ⟨k, rfl⟩ : ∃ m, k = m + 1 := ⟨k - 1, by omega⟩
    simp only [inclinelaw13_rising.l0]
    rw [if_neg (by omega), List.drop_eq_nil_of_le (by omega)]
    rfl
  | succ d ih =>
    intro i hi hd k hk
    by_cases hlt : i < l.length
    · obtain ⟨k, rfl⟩ : ∃ m, k = m + 1 := ⟨k - 1, by omega⟩
      have hsm : l[i].length ≤ 1048576 := by
        have h1 := len_le_total (List.getElem_mem hlt)
        unfold total at h1
        omega
      have hl : (keysOf l[i]).length = l[i].length := by simp [keysOf]
      simp only [inclinelaw13_rising.l0]
      rw [if_pos (by omega), if_pos (by omega), rd_L3_get l i hlt, of_is _ hsm k (by omega)]
      simp only [Option.bind_some]
      rw [refRising_f (keysOf l[i]) (by omega) k (by omega)]
      simp only [Option.bind_some]
      rw [List.drop_eq_getElem_cons hlt, List.all_cons]
      cases hr : risesTo (keysOf l[i]) (keysOf l[i]).length with
      | true =>
        rw [if_pos rfl, w64 (by omega) (by omega), Bool.true_and]
        exact ih (i + 1) (by omega) (by omega) k (by omega)
      | false => rw [if_neg (by simp), Bool.false_and]
    · exact ih i hi (by omega) k (by omega)
theorem rising_f (l : List (List S32)) (hs : l.length + (l.map List.length).sum ≤ 1048576) (k : Nat) (hk : 3145728 ≤ k) : inclinelaw13_rising.f k l = some (l.all fun xs => risesTo (keysOf xs) (keysOf xs).length) := by
  have := rising_is l hs l.length 0 (by omega) (by omega) k (by omega)
  simpa [inclinelaw13_rising.f] using this
theorem all_rise {l : List (List S32)} (h : (l.all fun xs => risesTo (keysOf xs) (keysOf xs).length) = true) : ∀ xs ∈ l, Rise S32.f0 xs := fun xs hx => by
  have := List.all_eq_true.1 h xs hx
  exact (rise_iff xs).2 ((rises_iff _).1 this)
theorem entries_small (l : List (List S32)) (hs : l.length + (l.map List.length).sum ≤ 10485760) : merge_Entries.f l = some (mergeL S32.f0 l) := by
  have h1 : ∀ xs ∈ l, xs.length ≤ (l.map List.length).sum := fun xs hx => len_le_total hx
  have h2 : (mergeL S32.f0 l).length ≤ (l.map List.length).sum := mergeL_length l
  unfold merge_Entries.f
  rw [if_pos]
  unfold merge_Entries.fits
  rw [Bool.and_eq_true, Bool.and_eq_true, decide_eq_true_eq, decide_eq_true_eq, List.all_eq_true]
  exact ⟨⟨by omega, fun xs hx => decide_eq_true (by have := h1 xs hx; omega)⟩, by omega⟩
end Go.Proofs.Ytojbfjfjhfnopaa.Pure
end

section
/- The reference's Merge, on lists. -/
namespace Go.Proofs.Ytojbfjfjhfnopaa.Pure
open Go.RowKit Go.Proofs.Ytojbfjfjhfnopaa.G Go.Proofs.YtojbfjfjhfnopaaW.PrintWords Go.Proofs.YtojbfjfjhfnopaaW.PrintLast
open MergeL
set_option linter.unusedVariables false
/-- For all fuel from some on. -/
def EvR {β : Type} (f : Nat → Option β) (r : β) : Prop := ∃ K, ∀ k, K ≤ k → f k = some r
theorem EvR.succ {β : Type} {f g : Nat → Option β} {r : β} (h : EvR g r) (M : Nat) (hf : ∀ k, M ≤ k → g k = some r → f (k + 1) = some r) : EvR f r := by
  obtain ⟨K, hK⟩ := h
  refine ⟨max K M + 1, fun k hk => ?_⟩
  obtain ⟨k, rfl⟩ : ∃ m, k = m + 1 := ⟨k - 1, by omega⟩
  exact hf k (by omega) (hK k (by omega))
theorem EvR.now {β : Type} {f : Nat → Option β} {r : β} (hf : ∀ k, f (k + 1) = some r) : EvR f r := ⟨1, fun k hk => by
  obtain ⟨k, rfl⟩ : ∃ m, k = m + 1 := ⟨k - 1, by omega⟩
  exact hf k⟩
section
variable (ks : List (List Int))
def ln (i : Nat) : Nat := (ks.getD i []).length
def ky (i p : Nat) : Int := (ks.getD i []).getD p 0
def pk (x : S54) : Int := ky ks x.f0.toNat x.f1.toNat
def mk54 (i j : Nat) : S54 := ⟨(i : Int), (j : Int)⟩
def rowAt (i p : Nat) : List S54 := ((List.range (ln ks i)).drop p).map (mk54 i)
def pos (ps : List Nat) (i : Nat) : Nat := ps.getD i 0
theorem pos_get {ps : List Nat} {j : Nat} (h : j < ps.length) : pos ps j = ps[j] := by unfold pos; rw [List.getD_eq_getElem?_getD, List.getElem?_eq_getElem h]; rfl
theorem pos_set_self {ps : List Nat} {j v : Nat} (h : j < ps.length) : pos (ps.set j v) j = v := by unfold pos; rw [List.getD_eq_getElem?_getD, List.getElem?_set_self h]; rfl
theorem pos_set_ne {ps : List Nat} {i j v : Nat} (h : i ≠ j) : pos (ps.set i v) j = pos ps j := by unfold pos; rw [List.getD_eq_getElem?_getD, List.getElem?_set_ne h, ← List.getD_eq_getElem?_getD]
def rem (ps : List Nat) : List (List S54) := (List.range ks.length).map (fun i => rowAt ks i (pos ps i))
theorem pk_mk (i j : Nat) : pk ks (mk54 i j) = ky ks i j := by simp [pk, mk54]
theorem rowAt_cons {i p : Nat} (h : p < ln ks i) : rowAt ks i p = mk54 i p :: rowAt ks i (p + 1) := by
  unfold rowAt
  rw [List.drop_eq_getElem_cons (by simpa using h), List.map_cons]
  simp
theorem rowAt_nil {i p : Nat} (h : ln ks i ≤ p) : rowAt ks i p = [] := by
  unfold rowAt
  rw [List.drop_eq_nil_of_le (by simpa using h)]
  rfl
theorem rem_get (ps : List Nat) {i : Nat} (hi : i < ks.length) : (rem ks ps)[i]? = some (rowAt ks i (pos ps i)) := by
  unfold rem
  rw [List.getElem?_map, List.getElem?_range hi]
  rfl
theorem rem_len (ps : List Nat) : (rem ks ps).length = ks.length := by simp [rem]
variable (ps : List Nat)
def sp (kk : Int) (i : Nat) : List Nat := (List.range ks.length).map (fun j => if j < i ∧ pos ps j < ln ks j ∧ ky ks j (pos ps j) = kk then pos ps j + 1 else pos ps j)
theorem sp_len (kk : Int) (i : Nat) : (sp ks ps kk i).length = ks.length := by simp [sp]
theorem sp_get (kk : Int) (i : Nat) {j : Nat} (hj : j < ks.length) : pos (sp ks ps kk i) j = if j < i ∧ pos ps j < ln ks j ∧ ky ks j (pos ps j) = kk then pos ps j + 1 else pos ps j := by
  unfold pos sp
  rw [List.getD_eq_getElem?_getD, List.getElem?_map, List.getElem?_range hj]
  rfl
theorem sp_zero (kk : Int) (hl : ps.length = ks.length) : sp ks ps kk 0 = ps := by
  apply List.ext_getElem
  · rw [sp_len, hl]
  · intro j h1 h2
    have := sp_get ks ps kk 0 (j := j) (by omega)
    rw [if_neg (by omega)] at this
    rw [pos_get h1, pos_get h2] at this
    exact this
theorem sp_succ (kk : Int) {i : Nat} (hi : i < ks.length) : sp ks ps kk (i + 1) = if pos ps i < ln ks i ∧ ky ks i (pos ps i) = kk then (sp ks ps kk i).set i (pos ps i + 1) else sp ks ps kk i := by
  have key : ∀ j, j < ks.length → pos (sp ks ps kk (i + 1)) j = pos (if pos ps i < ln ks i ∧ ky ks i (pos ps i) = kk then (sp ks ps kk i).set i (pos ps i + 1) else sp ks ps kk i) j := fun j hj => by
    rw [sp_get ks ps kk (i + 1) hj]
    by_cases e : j = i
    · subst e
      by_cases hc : pos ps j < ln ks j ∧ ky ks j (pos ps j) = kk
      · rw [if_pos ⟨by omega, hc⟩, if_pos hc]
        rw [pos_set_self (by rw [sp_len]; exact hj)]
      · rw [if_neg (fun h => hc h.2), if_neg hc, sp_get ks ps kk j hj, if_neg (by omega)]
    · have h1 : pos (if pos ps i < ln ks i ∧ ky ks i (pos ps i) = kk then (sp ks ps kk i).set i (pos ps i + 1) else sp ks ps kk i) j = pos (sp ks ps kk i) j := by
        split
        · exact pos_set_ne (Ne.symm e)
        · rfl
      rw [h1, sp_get ks ps kk i hj]
      by_cases hji : j < i
      · have e1 : (j < i + 1 ∧ pos ps j < ln ks j ∧ ky ks j (pos ps j) = kk) = (j < i ∧ pos ps j < ln ks j ∧ ky ks j (pos ps j) = kk) := by simp [hji, show j < i + 1 from by omega]
        simp only [e1]
      · rw [if_neg (fun h => by omega), if_neg (fun h => hji h.1)]
  have hlen : (if pos ps i < ln ks i ∧ ky ks i (pos ps i) = kk then (sp ks ps kk i).set i (pos ps i + 1) else sp ks ps kk i).length = ks.length := by split <;> simp [sp_len]
  apply List.ext_getElem
  · rw [sp_len, hlen]
  · intro j h1 h2
    have := key j (by rw [sp_len] at h1; exact h1)
    rw [pos_get h1, pos_get h2] at this
    exact this
theorem rem_step (kk : Int) : rem ks (sp ks ps kk ks.length) = MergeL.step (pk ks) kk (rem ks ps) := by
  apply List.ext_getElem?
  intro i
  by_cases hi : i < ks.length
  · unfold MergeL.step
    rw [rem_get ks _ hi, List.getElem?_map, rem_get ks _ hi]
    show some (rowAt ks i (pos (sp ks ps kk ks.length) i)) = some (drop1 (pk ks) kk (rowAt ks i (pos ps i)))
    congr 1
    rw [sp_get ks ps kk ks.length hi]
    by_cases hp : pos ps i < ln ks i
    · rw [rowAt_cons ks hp]
      simp only [drop1, pk_mk]
      by_cases hk : ky ks i (pos ps i) = kk
      · rw [if_pos ⟨hi, hp, hk⟩, if_pos hk]
      · rw [if_neg (fun h => hk h.2.2), if_neg hk, rowAt_cons ks hp]
    · rw [if_neg (fun h => hp h.2.1), rowAt_nil ks (Nat.not_lt.1 hp)]
      rfl
  · rw [List.getElem?_eq_none (by rw [rem_len]; omega), List.getElem?_eq_none (by simp [MergeL.step, rem_len]; omega)]
structure Small : Prop where
  n : ks.length ≤ 1048576
  len : ∀ i, ln ks i ≤ 1048576
variable {ks ps}
abbrev ints (ps : List Nat) : List Int := ps.map (fun p : Nat => (p : Int))
theorem rd_ints (i : Nat) (h : i < ps.length) : rd (ints ps) (i : Int) = (pos ps i : Int) := by
  simp [rd, ints, pos, List.getD_eq_getElem?_getD, List.getElem?_eq_getElem h]
theorem rd_L4_get (i : Nat) : rd_L4 ks (i : Int) = ks.getD i [] := rfl
theorem rd_ky (i p : Nat) : rd (ks.getD i []) (p : Int) = ky ks i p := rfl
/-- The first of the least, among the first i lists. -/
def Fst (first : Int) (i : Nat) : Prop := (first = -1 ∧ ∀ j, j < i → ln ks j ≤ pos ps j) ∨ ∃ f : Nat, first = (f : Int) ∧ f < i ∧ pos ps f < ln ks f ∧ ∀ j, j < i → pos ps j < ln ks j → ky ks f (pos ps f) < ky ks j (pos ps j) ∨ (ky ks f (pos ps f) = ky ks j (pos ps j) ∧ f ≤ j)
theorem ev_l1 (hs : Small ks) (hl : ps.length = ks.length) (hp : ∀ i, pos ps i ≤ 1048576) (out : List S54) (ho : out.length ≤ 2097152) (R : List S54) (hnone : (∀ j, j < ks.length → ln ks j ≤ pos ps j) → R = out)
    (hsome : ∀ f : Nat, f < ks.length → pos ps f < ln ks f → (∀ j, j < ks.length → pos ps j < ln ks j → ky ks f (pos ps f) < ky ks j (pos ps j) ∨ (ky ks f (pos ps f) = ky ks j (pos ps j) ∧ f ≤ j)) → EvR (fun k => inclineref13_Merge.l2 k ks (ints ps) (out ++ [mk54 f (pos ps f)]) (ky ks f (pos ps f)) 0) R) :
    ∀ (d i : Nat) (first : Int), i ≤ ks.length → ks.length ≤ i + d → Fst (ks := ks) (ps := ps) first i → EvR (fun k => inclineref13_Merge.l1 k ks (ints ps) out first i) R := by
  have hn := hs.n
  have hil : (ints ps).length = ks.length := by simp [ints, hl]
  intro d
  induction d with
  | zero =>
    intro i first hi hd hf
    obtain rfl : i = ks.length := by omega
    rcases hf with ⟨rfl, hf⟩ | ⟨f, rfl, hfi, hfp, hmin⟩
    · refine EvR.now fun k => ?_
      simp only [inclineref13_Merge.l1]
      rw [if_neg (by omega), if_pos (by omega), hnone hf]
    · refine (hsome f hfi hfp hmin).succ 0 fun k _ hk => ?_
      have hpf := hp f
      simp only [inclineref13_Merge.l1]
      rw [if_neg (by omega), if_neg (by omega), if_pos (by omega), if_pos (by omega), if_pos (by omega), if_pos (by omega), rd_ints f (by omega), rd_L4_get, if_pos (by omega), if_pos (by unfold ln at hfp; omega), rd_ky]
      exact hk
  | succ d ih =>
    intro i first hi hd hf
    by_cases hlt : i < ks.length
    · have hpi := hp i
      by_cases hpl : pos ps i < ln ks i
      · -- the list has a head
        have hnx : EvR (fun k => inclineref13_Merge.l1 k ks (ints ps) out (if first < 0 then (i : Int) else if ky ks i (pos ps i) < ky ks first.toNat (pos ps first.toNat) then (i : Int) else first) ((i + 1 : Nat) : Int)) R := by
          refine ih (i + 1) _ (by omega) (by omega) ?_
          rcases hf with ⟨rfl, hf⟩ | ⟨f, rfl, hfi, hfp, hmin⟩
          · rw [if_pos (by omega)]
            refine .inr ⟨i, rfl, by omega, hpl, fun j hj hjp => ?_⟩
            rcases Nat.lt_or_ge j i with h | h
            · have := hf j h; omega
            · obtain rfl : j = i := by omega
              exact .inr ⟨rfl, Nat.le_refl _⟩
          · rw [if_neg (by omega), Int.toNat_natCast]
            split
            · rename_i hlt2
              refine .inr ⟨i, rfl, by omega, hpl, fun j hj hjp => ?_⟩
              rcases Nat.lt_or_ge j i with h | h
              · have := hmin j h hjp; left; omega
              · obtain rfl : j = i := by omega
                exact .inr ⟨rfl, Nat.le_refl _⟩
            · rename_i hge
              refine .inr ⟨f, rfl, by omega, hfp, fun j hj hjp => ?_⟩
              rcases Nat.lt_or_ge j i with h | h
              · exact hmin j h hjp
              · obtain rfl : j = i := by omega
                omega
        refine hnx.succ 0 fun k _ hk => ?_
        simp only [inclineref13_Merge.l1]
        rw [if_pos (by omega), if_pos (by omega), if_pos (by omega), rd_ints i (by omega), rd_L4_get, if_pos (by unfold ln at hpl; omega), w64 (by omega) (by omega)]
        rcases hf with ⟨rfl, hf⟩ | ⟨f, rfl, hfi, hfp, hmin⟩
        · rw [if_pos (by omega)]
          rw [if_pos (by omega)] at hk
          exact hk
        · have hpf := hp f
          rw [if_neg (by omega), Int.toNat_natCast] at hk
          rw [if_neg (by omega), if_pos (by omega), if_pos (by omega), if_pos (by omega), if_pos (by omega), rd_ints f (by omega), rd_L4_get, if_pos (by omega), if_pos (by unfold ln at hfp; omega), rd_ky, rd_ky]
          split
          · rename_i h; rw [if_pos h] at hk; exact hk
          · rename_i h; rw [if_neg h] at hk; exact hk
      · have hnx := ih (i + 1) first (by omega) (by omega) (by
          rcases hf with ⟨rfl, hf⟩ | ⟨f, rfl, hfi, hfp, hmin⟩
          · refine .inl ⟨rfl, fun j hj => ?_⟩
            rcases Nat.lt_or_ge j i with h | h
            · exact hf j h
            · obtain rfl : j = i := by omega
              omega
          · refine .inr ⟨f, rfl, by omega, hfp, fun j hj hjp => ?_⟩
            rcases Nat.lt_or_ge j i with h | h
            · exact hmin j h hjp
            · obtain rfl : j = i := by omega
              exact absurd hjp hpl)
        refine hnx.succ 0 fun k _ hk => ?_
        simp only [inclineref13_Merge.l1]
        rw [if_pos (by omega), if_pos (by omega), if_pos (by omega), rd_ints i (by omega), rd_L4_get, if_neg (by unfold ln at hpl; omega), w64 (by omega) (by omega)]
        exact hk
    · exact ih i first hi (by omega) hf
theorem ev_l2 (hs : Small ks) (hl : ps.length = ks.length) (hp : ∀ i, pos ps i ≤ 1048576) (kk : Int) (out : List S54) (R : List S54) (hn : EvR (fun k => inclineref13_Merge.l0 k ks (ints (sp ks ps kk ks.length)) out) R) :
    ∀ (d i : Nat), i ≤ ks.length → ks.length ≤ i + d → EvR (fun k => inclineref13_Merge.l2 k ks (ints (sp ks ps kk i)) out kk i) R := by
  have hnn := hs.n
  intro d
  induction d with
  | zero =>
    intro i hi hd
    obtain rfl : i = ks.length := by omega
    refine hn.succ 0 fun k _ hk => ?_
    simp only [inclineref13_Merge.l2]
    rw [if_neg (by omega)]
    exact hk
  | succ d ih =>
    intro i hi hd
    by_cases hlt : i < ks.length
    · have hpi := hp i
      have hnx := ih (i + 1) (by omega) (by omega)
      rw [sp_succ ks ps kk hlt] at hnx
      have hil : (ints (sp ks ps kk i)).length = ks.length := by simp [ints, sp_len]
      have hg : pos (sp ks ps kk i) i = pos ps i := by rw [sp_get ks ps kk i hlt, if_neg (by omega)]
      have hrd : rd (ints (sp ks ps kk i)) (i : Int) = (pos ps i : Int) := by rw [rd_ints i (by rw [sp_len]; exact hlt), hg]
      refine hnx.succ 0 fun k _ hk => ?_
      simp only [inclineref13_Merge.l2]
      rw [if_pos (by omega), if_pos (by omega), if_pos (by omega), hrd, rd_L4_get]
      by_cases hpl : pos ps i < ln ks i
      · rw [if_pos (by unfold ln at hpl; omega), if_pos (by omega), rd_ky]
        by_cases hk2 : ky ks i (pos ps i) = kk
        · rw [if_pos ⟨hpl, hk2⟩] at hk
          rw [if_pos hk2, w64 (i := (pos ps i : Int) + 1) (by omega) (by omega), w64 (i := (i : Int) + 1) (by omega) (by omega), Int.toNat_natCast]
          have e : (ints (sp ks ps kk i)).set i ((pos ps i : Int) + 1) = ints ((sp ks ps kk i).set i (pos ps i + 1)) := by
            unfold ints
            rw [List.map_set]
            rfl
          rw [e]
          exact hk
        · rw [if_neg (fun h => hk2 h.2)] at hk
          rw [if_neg hk2, w64 (by omega) (by omega)]
          exact hk
      · rw [if_neg (fun h => hpl h.1)] at hk
        rw [if_neg (by unfold ln at hpl; omega), w64 (by omega) (by omega)]
        exact hk
    · exact ih i hi (by omega)
theorem ev_l0 (hs : Small ks) : ∀ (f : Nat) (ps : List Nat) (out : List S54), ps.length = ks.length → (∀ i, pos ps i ≤ 1048576) → (∀ i, i < ks.length → pos ps i ≤ ln ks i) → total (rem ks ps) ≤ f → out.length + f ≤ 1048576 → EvR (fun k => inclineref13_Merge.l0 k ks (ints ps) out) (out ++ mergeF (pk ks) f (rem ks ps)) := by
  intro f
  induction f with
  | zero =>
    intro ps out hl hp hle ht ho
    have hnil : ∀ j, j < ks.length → ln ks j ≤ pos ps j := fun j hj => by
      apply Classical.byContradiction
      intro h
      have h1 := rem_get ks ps hj
      have h2 := len_le_total (List.mem_of_getElem? h1)
      rw [rowAt_cons ks (Nat.not_le.1 h), List.length_cons] at h2
      omega
    refine (ev_l1 hs hl hp out (by omega) (out ++ mergeF (pk ks) 0 (rem ks ps)) (fun _ => by simp [mergeF]) (fun f hf hfp _ => by have := hnil f hf; omega) ks.length 0 (-1) (by omega) (by omega) (.inl ⟨rfl, fun j hj => by omega⟩)).succ 0 fun k _ hk => ?_
    simp only [inclineref13_Merge.l0]
    exact hk
  | succ f ih =>
    intro ps out hl hp hle ht ho
    refine (ev_l1 hs hl hp out (by omega) (out ++ mergeF (pk ks) (f + 1) (rem ks ps)) (fun hn => ?_) (fun g hg hgp hmin => ?_) ks.length 0 (-1) (by omega) (by omega) (.inl ⟨rfl, fun j hj => by omega⟩)).succ 0 fun k _ hk => ?_
    · have : pick (pk ks) (rem ks ps) = none := (pick_none (pk ks)).2 fun xs hx => by
        obtain ⟨i, hi, rfl⟩ := List.getElem_of_mem hx
        rw [rem_len] at hi
        have h1 := rem_get ks ps hi
        rw [List.getElem?_eq_getElem (by rw [rem_len]; exact hi)] at h1
        injection h1 with h1
        rw [h1]
        exact rowAt_nil ks (hn i hi)
      simp [mergeF, this]
    · have hrg : (rem ks ps)[g]? = some (mk54 g (pos ps g) :: rowAt ks g (pos ps g + 1)) := by rw [rem_get ks ps hg, ← rowAt_cons ks hgp]
      have hpick : pick (pk ks) (rem ks ps) = some (mk54 g (pos ps g)) := pick_at (pk ks) hrg fun j z zs hj => by
        have hjl : j < ks.length := by have := (List.getElem?_eq_some_iff.1 hj).1; rwa [rem_len] at this
        rw [rem_get ks ps hjl] at hj
        injection hj with hj
        have hjp : pos ps j < ln ks j := by
          apply Classical.byContradiction
          intro h
          rw [rowAt_nil ks (Nat.not_lt.1 h)] at hj
          cases hj
        rw [rowAt_cons ks hjp] at hj
        injection hj with hj _
        rw [← hj, pk_mk, pk_mk]
        exact hmin j hjl hjp
      obtain ⟨g2, e2, hm, htt⟩ := merge_round (key := pk ks) (f + 1) ht hrg hpick
      obtain rfl : g2 = f := by omega
      rw [pk_mk] at hm htt
      have hsp : ∀ i, i < ks.length → pos (sp ks ps (ky ks g (pos ps g)) ks.length) i ≤ ln ks i := fun i hi => by
        rw [sp_get ks ps _ _ hi]
        have := hle i hi
        split
        · rename_i h; omega
        · exact this
      have hnx := ih (sp ks ps (ky ks g (pos ps g)) ks.length) (out ++ [mk54 g (pos ps g)]) (sp_len ks ps _ _) (fun i => by
          by_cases hi : i < ks.length
          · exact Nat.le_trans (hsp i hi) (hs.len i)
          · unfold pos; rw [List.getD_eq_getElem?_getD, List.getElem?_eq_none (by rw [sp_len]; omega)]; exact Nat.zero_le _) hsp (by rw [rem_step]; exact htt) (by rw [List.length_append, List.length_singleton]; omega)
      rw [rem_step] at hnx
      rw [hm]
      have e : out ++ mk54 g (pos ps g) :: mergeF (pk ks) g2 (MergeL.step (pk ks) (ky ks g (pos ps g)) (rem ks ps)) = (out ++ [mk54 g (pos ps g)]) ++ mergeF (pk ks) g2 (MergeL.step (pk ks) (ky ks g (pos ps g)) (rem ks ps)) := by simp
      rw [e]
      have := ev_l2 hs hl hp (ky ks g (pos ps g)) _ _ hnx ks.length 0 (by omega) (by omega)
      rw [sp_zero ks ps _ hl] at this
      exact this
    · simp only [inclineref13_Merge.l0]
      exact hk
def places (ks : List (List Int)) : List S54 := mergeL (pk ks) (rem ks (List.replicate ks.length 0))
theorem refMerge_ev (hs : Small ks) (ht : total (rem ks (List.replicate ks.length 0)) ≤ 1048576) : EvR (fun k => inclineref13_Merge.f k ks) (places ks) := by
  have h := ev_l0 hs (total (rem ks (List.replicate ks.length 0))) (List.replicate ks.length 0) [] (by simp) (fun i => by
    unfold pos; rw [List.getD_eq_getElem?_getD, List.getElem?_replicate]; split <;> simp) (fun i hi => by
    unfold pos; rw [List.getD_eq_getElem?_getD, List.getElem?_replicate]; split <;> simp) (Nat.le_refl _) (by simpa using ht)
  obtain ⟨K, hK⟩ := h
  refine ⟨K, fun k hk => ?_⟩
  have hn := hs.n
  show inclineref13_Merge.f k ks = _
  unfold inclineref13_Merge.f
  rw [if_pos (by omega), if_pos (by omega), Int.toNat_natCast]
  have e : ints (List.replicate ks.length 0) = List.replicate ks.length (0 : Int) := by simp [ints]
  rw [← e]
  have := hK k hk
  simpa [places, mergeL] using this
end
end Go.Proofs.Ytojbfjfjhfnopaa.Pure
end

section
/- The reference's Entries is the merge. -/
namespace Go.Proofs.Ytojbfjfjhfnopaa.MergeL
set_option linter.unusedVariables false
section
variable {α β : Type} {ka : α → Int} {kb : β → Int} {φ : α → β}
theorem pick_map {rem : List (List α)} (h : ∀ xs ∈ rem, ∀ x ∈ xs, kb (φ x) = ka x) : pick kb (rem.map (List.map φ)) = (pick ka rem).map φ ∧ ∀ y, pick ka rem = some y → kb (φ y) = ka y := by
  induction rem with
  | nil => exact ⟨rfl, fun y h => by simp [pick] at h⟩
  | cons xs r ih =>
    obtain ⟨h1, h2⟩ := ih (fun ys hy => h ys (List.mem_cons_of_mem _ hy))
    cases xs with
    | nil => exact ⟨by simpa [pick] using h1, fun y hy => h2 y (by simpa [pick] using hy)⟩
    | cons x t =>
      have hx := h (x :: t) List.mem_cons_self x List.mem_cons_self
      simp only [List.map_cons, pick, h1]
      cases hp : pick ka r with
      | none =>
        refine ⟨rfl, fun y hy => ?_⟩
        simp only [Option.some.injEq] at hy
        subst hy; exact hx
      | some z =>
        have hz := h2 z hp
        simp only [Option.map_some, hz, hx]
        refine ⟨by split <;> rfl, fun y hy => ?_⟩
        split at hy <;> (injection hy with hy; subst hy; assumption)
theorem step_map {rem : List (List α)} (h : ∀ xs ∈ rem, ∀ x ∈ xs, kb (φ x) = ka x) (k : Int) : step kb k (rem.map (List.map φ)) = (step ka k rem).map (List.map φ) := by
  unfold step
  rw [List.map_map, List.map_map]
  refine List.map_congr_left fun xs hx => ?_
  cases xs with
  | nil => rfl
  | cons x t =>
    have := h (x :: t) hx x List.mem_cons_self
    simp only [Function.comp, List.map_cons, drop1, this]
    split <;> rfl
theorem step_mem {rem : List (List α)} {k : Int} : ∀ xs ∈ step ka k rem, ∀ x ∈ xs, ∃ ys ∈ rem, x ∈ ys := fun xs hx x hxx => by
  obtain ⟨ys, hy, rfl⟩ := List.mem_map.1 hx
  refine ⟨ys, hy, ?_⟩
  cases ys with
  | nil => exact hxx
  | cons y t =>
    simp only [drop1] at hxx
    split at hxx
    · exact List.mem_cons_of_mem _ hxx
    · exact hxx
theorem mergeF_map (f : Nat) {rem : List (List α)} (h : ∀ xs ∈ rem, ∀ x ∈ xs, kb (φ x) = ka x) : mergeF kb f (rem.map (List.map φ)) = (mergeF ka f rem).map φ := by
  induction f generalizing rem with
  | zero => rfl
  | succ f ih =>
    obtain ⟨h1, h2⟩ := pick_map h
    simp only [mergeF, h1]
    cases hp : pick ka rem with
    | none => rfl
    | some y =>
      simp only [Option.map_some, List.map_cons]
      rw [h2 y hp, step_map h, ih (fun xs hx x hxx => by
        obtain ⟨ys, hy, hyy⟩ := step_mem xs hx x hxx
        exact h ys hy x hyy)]
theorem pick_mem {rem : List (List α)} {y : α} (h : pick ka rem = some y) : ∃ xs ∈ rem, y ∈ xs := by
  induction rem generalizing y with
  | nil => simp [pick] at h
  | cons xs r ih =>
    cases xs with
    | nil =>
      obtain ⟨ys, hy, h2⟩ := ih (by simpa [pick] using h)
      exact ⟨ys, List.mem_cons_of_mem _ hy, h2⟩
    | cons x t =>
      simp only [pick] at h
      cases hp : pick ka r with
      | none =>
        rw [hp] at h
        simp only [Option.some.injEq] at h
        subst h
        exact ⟨_, List.mem_cons_self, List.mem_cons_self⟩
      | some z =>
        rw [hp] at h
        simp only at h
        split at h
        · injection h with h
          subst h
          obtain ⟨ys, hy, h2⟩ := ih hp
          exact ⟨ys, List.mem_cons_of_mem _ hy, h2⟩
        · injection h with h
          subst h
          exact ⟨_, List.mem_cons_self, List.mem_cons_self⟩
theorem mergeF_mem (f : Nat) {rem : List (List α)} {x : α} (h : x ∈ mergeF ka f rem) : ∃ xs ∈ rem, x ∈ xs := by
  induction f generalizing rem with
  | zero => simp [mergeF] at h
  | succ f ih =>
    simp only [mergeF] at h
    cases hp : pick ka rem with
    | none => rw [hp] at h; cases h
    | some y =>
      rw [hp] at h
      rcases List.mem_cons.1 h with h | h
      · subst h; exact pick_mem hp
      · obtain ⟨ys, hy, h2⟩ := ih h
        exact step_mem ys hy x h2
end
end Go.Proofs.Ytojbfjfjhfnopaa.MergeL
namespace Go.Proofs.Ytojbfjfjhfnopaa.Pure
open Go.RowKit Go.Proofs.Ytojbfjfjhfnopaa.G Go.Proofs.YtojbfjfjhfnopaaW.PrintWords Go.Proofs.YtojbfjfjhfnopaaW.PrintLast
open MergeL
set_option linter.unusedVariables false
section
variable (l : List (List S32))
def phi (p : S54) : S32 := rd_T32 (rd_L3 l p.f0) p.f1
abbrev kss : List (List Int) := l.map keysOf
variable {l}
theorem kss_ln {i : Nat} (hi : i < l.length) : ln (kss l) i = (l[i]).length := by
  unfold ln kss
  rw [List.getD_eq_getElem?_getD, List.getElem?_map, List.getElem?_eq_getElem hi]
  simp [keysOf]
theorem phi_mk {i j : Nat} (hi : i < l.length) (hj : j < (l[i]).length) : phi l (mk54 i j) = l[i][j] := by
  unfold phi mk54
  rw [rd_L3_get l i hi, rd_get _ _ hj]
theorem key_phi {i j : Nat} (hi : i < l.length) (hj : j < (l[i]).length) : (phi l (mk54 i j)).f0 = pk (kss l) (mk54 i j) := by
  rw [phi_mk hi hj, pk_mk]
  have e : (kss l).getD i [] = keysOf l[i] := by
    unfold kss
    rw [List.getD_eq_getElem?_getD, List.getElem?_map, List.getElem?_eq_getElem hi]
    rfl
  unfold ky
  rw [e]
  unfold keysOf
  rw [List.getD_eq_getElem?_getD, List.getElem?_map, List.getElem?_eq_getElem hj]
  rfl
theorem rem0 : (rem (kss l) (List.replicate (kss l).length 0)).map (List.map (phi l)) = l := by
  apply List.ext_getElem?
  intro i
  by_cases hi : i < l.length
  · rw [List.getElem?_map, rem_get (kss l) _ (by simpa using hi), List.getElem?_eq_getElem hi]
    have e : pos (List.replicate (kss l).length 0) i = 0 := by unfold pos; rw [List.getD_eq_getElem?_getD, List.getElem?_replicate]; split <;> rfl
    rw [e]
    show some ((rowAt (kss l) i 0).map (phi l)) = _
    congr 1
    unfold rowAt
    rw [List.drop_zero, List.map_map, kss_ln hi]
    apply List.ext_getElem
    · simp
    · intro j h1 h2
      rw [List.getElem_map, List.getElem_range]
      exact phi_mk hi h2
  · rw [List.getElem?_eq_none (by rw [List.length_map, rem_len]; simp; omega), List.getElem?_eq_none (by omega)]
theorem rem0_mem {p : S54} {xs : List S54} (hx : xs ∈ rem (kss l) (List.replicate (kss l).length 0)) (hp : p ∈ xs) : ∃ i j : Nat, ∃ hi : i < l.length, p = mk54 i j ∧ j < (l[i]).length := by
  unfold rem at hx
  obtain ⟨i, hi, rfl⟩ := List.mem_map.1 hx
  have hil : i < l.length := by have := List.mem_range.1 hi; simpa using this
  unfold rowAt at hp
  obtain ⟨j, hj, rfl⟩ := List.mem_map.1 hp
  have := List.mem_range.1 (List.mem_of_mem_drop hj)
  rw [kss_ln hil] at this
  exact ⟨i, j, hil, rfl, this⟩
theorem rem0_total : total (rem (kss l) (List.replicate (kss l).length 0)) = total l := by
  conv => rhs; rw [← rem0 (l := l)]
  unfold total
  rw [List.map_map]
  congr 1
  refine List.map_congr_left fun xs _ => ?_
  simp
theorem places_phi : (places (kss l)).map (phi l) = mergeL S32.f0 l := by
  unfold places mergeL
  rw [← mergeF_map (kb := S32.f0) _ (fun xs hx x hxx => by
    obtain ⟨i, j, hi, rfl, hj⟩ := rem0_mem hx hxx
    exact key_phi hi hj), rem0, rem0_total]
theorem places_mem {p : S54} (h : p ∈ places (kss l)) : ∃ i j : Nat, ∃ hi : i < l.length, p = mk54 i j ∧ j < (l[i]).length := by
  obtain ⟨xs, hx, hp⟩ := mergeF_mem _ h
  exact rem0_mem hx hp
theorem rd_T54_get (t : List S54) (i : Nat) (h : i < t.length) : rd_T54 t (i : Int) = t[i] := by
  simp [rd_T54, List.getD_eq_getElem?_getD, List.getElem?_eq_getElem h]
theorem ent_l2 (t : List S54) (ht : ∀ p ∈ t, ∃ i j : Nat, ∃ hi : i < l.length, p = mk54 i j ∧ j < (l[i]).length) (htl : t.length ≤ 1048576) : ∀ (d i : Nat), i ≤ t.length → t.length ≤ i + d → EvR (fun k => inclineref13_Entries.l2 k l t ((t.take i).map (phi l)) i) (t.map (phi l)) := by
  intro d
  induction d with
  | zero =>
    intro i hi hd
    obtain rfl : i = t.length := by omega
    refine EvR.now fun k => ?_
    simp only [inclineref13_Entries.l2]
    rw [if_neg (by omega), List.take_length]
  | succ d ih =>
    intro i hi hd
    by_cases hlt : i < t.length
    · have hnx := ih (i + 1) (by omega) (by omega)
      rw [List.take_succ_eq_append_getElem hlt, List.map_append] at hnx
      obtain ⟨a, b, ha, e, hb⟩ := ht _ (List.getElem_mem hlt)
      refine hnx.succ 0 fun k _ hk => ?_
      have hlen : ((t.take i).map (phi l)).length = i := by rw [List.length_map, List.length_take]; omega
      simp only [inclineref13_Entries.l2]
      rw [rd_T54_get t i hlt, e]
      have e0 : (mk54 a b).f0 = (a : Int) := rfl
      have e1 : (mk54 a b).f1 = (b : Int) := rfl
      rw [if_pos (by omega), if_pos (by omega), e0, e1, if_pos (by omega), if_pos (by omega), if_pos (by omega), rd_L3_get l a ha, if_pos (by omega), if_pos (by omega), w64 (by omega) (by omega)]
      rw [e] at hk
      simp only [List.map_cons, List.map_nil, phi, e0, e1, rd_L3_get l a ha] at hk
      exact hk
    · exact ih i hi (by omega)
theorem ent_l1 (hs : l.length + (l.map List.length).sum ≤ 1048576) (x3 : List (List Int)) (hx : x3.length ≤ 1048576) {i : Nat} (hi : i < l.length) (R : List S32) (hn : EvR (fun k => inclineref13_Entries.l0 k l (x3 ++ [keysOf l[i]]) ((i + 1 : Nat) : Int)) R) :
    ∀ (d j : Nat), j ≤ (l[i]).length → (l[i]).length ≤ j + d → EvR (fun k => inclineref13_Entries.l1 k l x3 i ((keysOf l[i]).take j) j) R := by
  have hsm : (l[i]).length ≤ 1048576 := by
    have h1 := len_le_total (List.getElem_mem hi)
    unfold total at h1
    omega
  have hkl : (keysOf l[i]).length = (l[i]).length := by simp [keysOf]
  intro d
  induction d with
  | zero =>
    intro j hj hd
    obtain rfl : j = (l[i]).length := by omega
    refine hn.succ 0 fun k _ hk => ?_
    simp only [inclineref13_Entries.l1]
    rw [if_pos (by omega), if_pos (by omega), rd_L3_get l i hi, if_neg (by omega), if_pos (by omega), w64 (by omega) (by omega), List.take_of_length_le (by omega)]
    exact hk
  | succ d ih =>
    intro j hj hd
    by_cases hlt : j < (l[i]).length
    · have hnx := ih (j + 1) (by omega) (by omega)
      rw [List.take_succ_eq_append_getElem (by omega)] at hnx
      have e : (keysOf l[i])[j]'(by omega) = (rd_T32 l[i] (j : Int)).f0 := by rw [rd_get _ _ hlt]; simp [keysOf]
      rw [e] at hnx
      refine hnx.succ 0 fun k _ hk => ?_
      have hle : ((keysOf l[i]).take j).length < 17592186044416 := by rw [List.length_take]; omega
      simp only [inclineref13_Entries.l1]
      rw [if_pos (by omega), if_pos (by omega), rd_L3_get l i hi, if_pos (by omega), if_pos (by omega), if_pos hle, w64 (by omega) (by omega)]
      exact hk
    · exact ih j hj (by omega)
theorem refEntries_ev (hs : l.length + (l.map List.length).sum ≤ 1048576) : EvR (fun k => inclineref13_Entries.f k l) (mergeL S32.f0 l) := by
  have hsmall : Small (kss l) := ⟨by simp; omega, fun i => by
    by_cases hi : i < l.length
    · rw [kss_ln hi]
      have h1 := len_le_total (List.getElem_mem hi)
      unfold total at h1
      omega
    · unfold ln; rw [List.getD_eq_getElem?_getD, List.getElem?_eq_none (by simp; omega)]; exact Nat.zero_le _⟩
  have htot : total (rem (kss l) (List.replicate (kss l).length 0)) ≤ 1048576 := by rw [rem0_total]; unfold total; omega
  have hpl : (places (kss l)).length ≤ 1048576 := Nat.le_trans (mergeL_length _) htot
  have hend : EvR (fun k => inclineref13_Entries.l0 k l (kss l) (l.length : Int)) (mergeL S32.f0 l) := by
    obtain ⟨K1, h1⟩ := refMerge_ev hsmall htot
    have h2 := ent_l2 (l := l) (places (kss l)) (fun p hp => places_mem hp) hpl (places (kss l)).length 0 (by omega) (by omega)
    rw [places_phi] at h2
    refine h2.succ K1 fun k hk0 hk => ?_
    simp only [inclineref13_Entries.l0]
    rw [if_neg (by omega), show inclineref13_Merge.f k (kss l) = _ from h1 k hk0]
    exact hk
  have h0 : ∀ (d i : Nat), i ≤ l.length → l.length ≤ i + d → EvR (fun k => inclineref13_Entries.l0 k l ((kss l).take i) i) (mergeL S32.f0 l) := by
    intro d
    induction d with
    | zero =>
      intro i hi hd
      obtain rfl : i = l.length := by omega
      rw [List.take_of_length_le (by simp)]
      exact hend
    | succ d ih =>
      intro i hi hd
      by_cases hlt : i < l.length
      · have hnx := ih (i + 1) (by omega) (by omega)
        rw [List.take_succ_eq_append_getElem (by simpa using hlt)] at hnx
        have e : (kss l)[i]'(by simpa using hlt) = keysOf l[i] := by simp [kss]
        rw [e] at hnx
        have h1 := ent_l1 hs ((kss l).take i) (by rw [List.length_take]; simp; omega) hlt _ hnx (l[i]).length 0 (by omega) (by omega)
        refine h1.succ 0 fun k _ hk => ?_
        simp only [inclineref13_Entries.l0]
        rw [if_pos (by omega)]
        exact hk
      · exact ih i hi (by omega)
  have := h0 l.length 0 (by omega) (by omega)
  simpa [inclineref13_Entries.f] using this
end
end Go.Proofs.Ytojbfjfjhfnopaa.Pure
end

section
/- The reference's places of words. -/
namespace Go.Proofs.Ytojbfjfjhfnopaa.Pure
open Go.RowKit Go.Proofs.Ytojbfjfjhfnopaa.G Go.Proofs.YtojbfjfjhfnopaaW.PrintWords Go.Proofs.YtojbfjfjhfnopaaW.PrintLast
open MergeL
open Go.Proofs.Ytojbfjfjhfnopaa.MergeS (Wd wk wv)
set_option linter.unusedVariables false
section
variable (l : List (List Wd))
def phiW (p : S54) : Wd := (l.getD p.f0.toNat []).getD p.f1.toNat ⟨ByteArray.empty, by decide⟩
abbrev kssW : List (List Int) := l.map (List.map wk)
variable {l}
theorem kssW_ln {i : Nat} (hi : i < l.length) : ln (kssW l) i = (l[i]).length := by
  unfold ln kssW
  rw [List.getD_eq_getElem?_getD, List.getElem?_map, List.getElem?_eq_getElem hi]
  simp
theorem phiW_mk {i j : Nat} (hi : i < l.length) (hj : j < (l[i]).length) : phiW l (mk54 i j) = l[i][j] := by
  unfold phiW mk54
  simp only [Int.toNat_natCast]
  rw [List.getD_eq_getElem?_getD (l := l), List.getElem?_eq_getElem hi, Option.getD_some, List.getD_eq_getElem?_getD, List.getElem?_eq_getElem hj]
  rfl
theorem key_phiW {i j : Nat} (hi : i < l.length) (hj : j < (l[i]).length) : wk (phiW l (mk54 i j)) = pk (kssW l) (mk54 i j) := by
  rw [phiW_mk hi hj, pk_mk]
  have e : (kssW l).getD i [] = (l[i]).map wk := by
    unfold kssW
    rw [List.getD_eq_getElem?_getD, List.getElem?_map, List.getElem?_eq_getElem hi]
    rfl
  unfold ky
  rw [e]
  rw [List.getD_eq_getElem?_getD, List.getElem?_map, List.getElem?_eq_getElem hj]
  rfl
theorem remW : (rem (kssW l) (List.replicate (kssW l).length 0)).map (List.map (phiW l)) = l := by
  apply List.ext_getElem?
  intro i
  by_cases hi : i < l.length
  · rw [List.getElem?_map, rem_get (kssW l) _ (by simpa using hi), List.getElem?_eq_getElem hi]
    have e : pos (List.replicate (kssW l).length 0) i = 0 := by unfold pos; rw [List.getD_eq_getElem?_getD, List.getElem?_replicate]; split <;> rfl
    rw [e]
    show some ((rowAt (kssW l) i 0).map (phiW l)) = _
    congr 1
    unfold rowAt
    rw [List.drop_zero, List.map_map, kssW_ln hi]
    apply List.ext_getElem
    · simp
    · intro j h1 h2
      rw [List.getElem_map, List.getElem_range]
      exact phiW_mk hi h2
  · rw [List.getElem?_eq_none (by rw [List.length_map, rem_len]; simp; omega), List.getElem?_eq_none (by omega)]
theorem remW_mem {p : S54} {xs : List S54} (hx : xs ∈ rem (kssW l) (List.replicate (kssW l).length 0)) (hp : p ∈ xs) : ∃ i j : Nat, ∃ hi : i < l.length, p = mk54 i j ∧ j < (l[i]).length := by
  unfold rem at hx
  obtain ⟨i, hi, rfl⟩ := List.mem_map.1 hx
  have hil : i < l.length := by have := List.mem_range.1 hi; simpa using this
  unfold rowAt at hp
  obtain ⟨j, hj, rfl⟩ := List.mem_map.1 hp
  have := List.mem_range.1 (List.mem_of_mem_drop hj)
  rw [kssW_ln hil] at this
  exact ⟨i, j, hil, rfl, this⟩
theorem remW_total : total (rem (kssW l) (List.replicate (kssW l).length 0)) = total l := by
  conv => rhs; rw [← remW (l := l)]
  unfold total
  rw [List.map_map]
  congr 1
  refine List.map_congr_left fun xs _ => ?_
  simp
theorem placesW_phiW : (places (kssW l)).map (phiW l) = mergeL wk l := by
  unfold places mergeL
  rw [← mergeF_map (kb := wk) _ (fun xs hx x hxx => by
    obtain ⟨i, j, hi, rfl, hj⟩ := remW_mem hx hxx
    exact key_phiW hi hj), remW, remW_total]
theorem placesW_mem {p : S54} (h : p ∈ places (kssW l)) : ∃ i j : Nat, ∃ hi : i < l.length, p = mk54 i j ∧ j < (l[i]).length := by
  obtain ⟨xs, hx, hp⟩ := mergeF_mem _ h
  exact remW_mem hx hp
end
end Go.Proofs.Ytojbfjfjhfnopaa.Pure
end

section
/- A region that draws its order, and only reads, within a round. -/
namespace Go.Proofs.Ytojbfjfjhfnopaa.RangeD
open Go
set_option linter.unusedVariables false
section
variable {F : Fence} {n : Nat} {P : Program} {ops : Array Oper} {Q : Exit → Act → World → Prop} {md : Region.Mode}
def noDefer (o : Oper) : Bool := match o.op with
  | .defer _ => false
  | _ => true
theorem noDefer_ne {o : Oper} (h : noDefer o = true) : ∀ c, o.op ≠ .defer c := fun c e => by
  unfold noDefer at h
  rw [e] at h
  cases h
theorem op_round {o : Oper} {a : Act} {w : World} {K : Act → World → Prop} (l : Nat) (hro : F.round = none) (hnd : ∀ c, o.op ≠ .defer c) (h : o.wpIn F n P a w K Q) : o.wpIn (F.inRound l) n P a w K Q := by
  refine ⟨h.1, ?_⟩
  have h2 := h.2
  rw [hro, Oper.semAt_none] at h2
  rw [Oper.semAt_eq _ _ _ hnd]
  exact h2
theorem any_round (l : Nat) (hro : F.round = none) (hnd : ∀ (i : Nat) o, ops[i]? = some o → noDefer o = true) : ∀ (fuel : Nat) (listed : Array Bool) (a : Act) (w : World), wpAnyIn F n P md ops Q fuel listed a w → wpAnyIn (F.inRound l) n P md ops Q fuel listed a w := by
  intro fuel
  induction fuel with
  | zero => exact fun listed a w h => h
  | succ fuel ih =>
    intro listed a w h
    refine ⟨h.1, fun i hi => ?_⟩
    have h2 := wpOpIn_mono (fun a w hh => ih _ a w hh) (h.2 i hi)
    unfold wpOpIn at h2 ⊢
    split
    · rename_i ho; simp only [ho] at h2; exact h2
    · rename_i o ho
      simp only [ho] at h2
      split
      · rename_i hw; simp only [hw, if_true] at h2; exact op_round l hro (noDefer_ne (hnd i o ho)) h2
      · rename_i hw; simp only [hw] at h2; exact h2
theorem region_round {id : Nat} {a : Act} {w : World} {ls : List Oper} (l : Nat) (hro : F.round = none) (hm : P.follows .mixedOrders = true) (hB : Region.lexB .any ls.toArray = true) (hnd : ls.all noDefer = true)
    (h : wpQuietIn F n P ls.toArray (fun w' => ∃ n, w' = w.drewN n) (fun a' => ∀ w', (∃ n, w' = w.drewN n) → Q .normal a' w') ls a) : (Code.region id ls.toArray true).wpIn (F.inRound l) n P Q a w := by
  simp only [Region.lexB, Bool.and_eq_true] at hB
  refine wpIn_region_any hm (any_round l hro (fun i o ho => ?_) _ _ _ _ (wpAnyIn_of_quiet (C := fun w' => ∃ n, w' = w.drewN n) (Q := fun a' => ∀ w', (∃ n, w' = w.drewN n) → Q .normal a' w') hro (fun _ w' hw' h => h w' hw') _ _ _ _ ⟨1, rfl⟩ ?_))
  · exact List.all_eq_true.1 hnd o (List.mem_of_getElem? (by simpa using ho))
  · have := wpAnyQIn_lex (F := F) (n := n) (C := fun w' => ∃ n, w' = w.drewN n) (md := .any) hB.1 ls 0 (Array.replicate ls.toArray.size false) a (by simp) (by simpa using hB.2) h
    simpa using this
end
end Go.Proofs.Ytojbfjfjhfnopaa.RangeD
end

section
/- A counter in a cell while a range goes; a result in a cell, behind one mark. -/
namespace Go.Proofs.Ytojbfjfjhfnopaa.RangeD
open Go.RowKit Go.Shelf HeapL
attribute [local go_sem] Oper.semAt_some
set_option linter.unusedVariables false
/-- X is the world at the range's begin; bn is the counter's cell. -/
structure NC {α : Type} (X : World) (bn : Nat) (pre : List α) (T : Blocks) (Y : World) : Prop where
  os : Y.os = X.os
  tape : Y.tape = X.tape
  output : Y.output = X.output
  size : X.heap.size ≤ Y.heap.size
  same : ∀ k, k < X.heap.size → k ≠ bn → Y.heap[k]? = X.heap[k]?
  own : ∀ k, T k → X.heap.size ≤ k
  n : Y.heap[bn]? = some (.cells #[.int .i64 (pre.length : Int)] 3 (0, 0))
variable {α : Type} {X : World} {bn : Nat}
theorem NC.start (hn : X.heap[bn]? = some (.cells #[.int .i64 0] 3 (0, 0))) : NC (α := α) X bn [] (fun _ => False) X :=
  ⟨rfl, rfl, rfl, Nat.le_refl _, fun _ _ _ => rfl, fun _ h => h.elim, hn⟩
theorem NC.abide (hn : bn < X.heap.size) : Abide (NC (α := α) X bn) := by
  intro pre T T' A A' h ht
  have hs := h.size
  have far : ∀ k, k < X.heap.size → A'.heap[k]? = A.heap[k]? := fun k hk => ht.same k (by omega) (fun hT => by have := h.own k hT; omega)
  refine ⟨ht.os.trans h.os, ht.tape.trans h.tape, ht.output.trans h.output, Nat.le_trans hs ht.size, fun k hk h1 => (far k hk).trans (h.same k hk h1), fun k hk => ?_, (far _ hn).trans h.n⟩
  rcases ht.new k hk with hk | hk
  · exact h.own k hk
  · omega
theorem NC.ownT (hn : bn < X.heap.size) : OwnT X.heap.size (NC (α := α) X bn) := by
  intro T pre Y Y' row h hg hr
  have hs := h.size
  have far : ∀ k, k < X.heap.size → Y'.heap[k]? = Y.heap[k]? := fun k hk => hg.block k (by omega) (fun e => by have := (hr k e.symm).1; omega)
  exact ⟨hg.os.trans h.os, hg.tape.trans h.tape, hg.output.trans h.output, Nat.le_trans hs hg.size, fun k hk h1 => (far k hk).trans (h.same k hk h1), h.own, (far _ hn).trans h.n⟩
theorem NC.drew {pre : List α} {T : Blocks} {Y : World} (h : NC X bn pre T Y) (d : Nat) : NC X bn pre T (Y.drewN d) :=
  ⟨h.os, h.tape, h.output, h.size, h.same, h.own, h.n⟩
theorem NC.next {pre : List α} {x : α} {T : Blocks} {Y : World} {u : Value} (h : NC X bn pre T Y) (hn : bn < X.heap.size) (hu : u = .int .i64 ((pre ++ [x]).length : Int)) :
    NC X bn (pre ++ [x]) T (Y.setCell ⟨bn, 0, none⟩ u) ∧ KeepsFrom X.heap.size Y (Y.setCell ⟨bn, 0, none⟩ u) ∧ ∀ D : Blocks, (∀ k, D k → k < X.heap.size ∧ k ≠ bn) → Same (fun k => D k ∨ T k) Y (Y.setCell ⟨bn, 0, none⟩ u) := by
  subst hu
  have hs := h.size
  have far : ∀ k, k ≠ bn → (Y.setCell ⟨bn, 0, none⟩ (.int .i64 ((pre ++ [x]).length : Int))).heap[k]? = Y.heap[k]? := fun k h1 => Below.heap_setCell _ ⟨bn, 0, none⟩ _ k h1
  have hsz : (Y.setCell ⟨bn, 0, none⟩ (.int .i64 ((pre ++ [x]).length : Int))).heap.size = Y.heap.size := by simp [World.setCell]
  refine ⟨⟨h.os, h.tape, h.output, by rw [hsz]; exact hs, fun k hk h1 => (far k h1).trans (h.same k hk h1), h.own, ?_⟩, ⟨by rw [hsz]; exact Nat.le_refl _, fun k ob hk ho hc => (far k (by omega)).trans ho⟩, fun D hD k hk hl => ?_⟩
  · exact (setCell_blk h.n _).trans rfl
  · rcases hk with hk | hk
    · exact far k (hD k hk).2
    · have := h.own k hk
      exact far k (by omega)
/-- What lies ahead of the counter is as it was. -/
theorem NC.below {pre : List α} {T : Blocks} {Y W : World} {ob : Obj} (h : NC (W.alloc ob) W.heap.size pre T Y) : Below W.heap.size W Y :=
  ⟨h.os, h.tape, h.output, by have := h.size; rw [World.size_alloc] at this; omega, fun k hk => (h.same k (by rw [World.size_alloc]; omega) (by omega)).trans (Below.heap_alloc W ob k hk)⟩
theorem leave_cell {fn : Func} {p : Tmp} {ty : TypeId} (hfn : fn.results = #[.cell p ty]) {tmps : Array Value} {R : Ending → World → Prop} {C : Nat} {W : World} {g : Nat} {v : Value} {i : TypeDesc} (hp : tmps.getD p undef = .pointer (some ⟨g, 0, none⟩)) (hu : Try.prog.underlying ty = some i) (hd : (match i with | .struct _ | .array _ _ => true | _ => false) = false)
    (hC : W.heap[C]? = some (.deferred (some []))) (hv : (W.putObj C (.deferred none)).cell? ⟨g, 0, none⟩ = some v) (hR : R (.returned v) (W.putObj C (.deferred none))) :
    LeavesInM Fence.wide 0 Try.prog fn tmps R [{ target := .collected C, args := #[] }] .returning W := by
  refine ⟨by simp, .inl ⟨C, _, rfl, run_takeDeferred hC, ⟨v, ?_, hR⟩⟩⟩
  have hagg : (isAgg ty).run Try.prog (W.putObj C (.deferred none)) = .ok false (W.putObj C (.deferred none)) := by
    unfold isAgg
    rw [Sem.run_bind, run_underlying hu]
    cases i <;> simp_all
  have hp' : tmps[p]?.getD undef = .pointer (some ⟨g, 0, none⟩) := by simpa using hp
  simp [results, hfn, hp', asAddr, loadVar, Sem.run_bind, hagg, hv]
end Go.Proofs.Ytojbfjfjhfnopaa.RangeD
end

section
/- The walk of MergeWords. -/
namespace Go.Proofs.Ytojbfjfjhfnopaa.MergeS
open Go.RowKit Go.Shelf RangeD SeqS MergeL HeapL HeapS Go.Proofs.YtojbfjfjhfnopaaW.PrintWords Go.Proofs.YtojbfjfjhfnopaaW.PrintLast G
attribute [local go_sem] Oper.semAt_some
set_option linter.unusedVariables false
set_option linter.unusedSimpArgs false
theorem lies_of_CS {w : World} {A : Option Addr} {xs : List Wd} (h : Kd.C Kd.string w A (xs.map wv).length (xs.map wv)) : ∃ g o, (0 < xs.length → A = some ⟨g, o, none⟩ ∧ g < w.heap.size) ∧ CellsAt wk wv w g o xs := by
  by_cases h0 : 0 < xs.length
  · obtain ⟨ad, e, hc⟩ := h.2.2 (by rw [List.length_map]; exact h0)
    have cells : ∀ (j : Nat) x, xs[j]? = some x → w.cell? (ad.add j) = some (.string (wv x)) := fun j x hj => by
      obtain ⟨c, _, hK, hcc⟩ := hc j (wv x) (by rw [List.getElem?_map, hj]; rfl)
      have hK2 : c = [.string (wv x)] := hK
      subst hK2
      have this : w.cell? (ad.add (j * 1 + 0)) = some (.string (wv x)) := hcc 0 _ rfl
      rwa [Nat.mul_one, Nat.add_zero] at this
    have c0 := cells 0 _ (List.getElem?_eq_getElem h0)
    have hp := addr_plain c0
    have hlt := World.block_lt_of_cell? _ _ c0
    rw [hp] at hlt
    refine ⟨ad.block, ad.off, fun _ => ⟨?_, hlt⟩, fun j x hj => ?_⟩
    · rw [e]
      have e2 : ad.add 0 = ad := by simp [Addr.add]
      rw [← e2, hp]
    · have := cells j x hj
      rw [addr_plain this] at this
      exact this
  · exact ⟨0, 0, fun h => absurd h h0, fun j x hj => absurd (List.getElem?_eq_some_iff.1 hj).1 (by omega)⟩
theorem rows_of_CS {w : World} {A0 : Option Addr} {ls : List (List Wd)} (hr : Kd.C (Kd.slice 9 Kd.string) w A0 (ls.map (List.map wv)).length (ls.map (List.map wv))) : ∃ g0 o0, (0 < ls.length → A0 = some ⟨g0, o0, none⟩) ∧ ∀ (i : Nat) (xs : List Wd), ls[i]? = some xs → ∃ A c g o, w.cell? ⟨g0, o0 + i, none⟩ = some (.slice A xs.length c) ∧ (0 < xs.length → A = some ⟨g, o, none⟩) ∧ CellsAt wk wv w g o xs ∧ g < w.heap.size := by
  by_cases h0 : 0 < ls.length
  · obtain ⟨ad, e, hc⟩ := hr.2.2 (by rw [List.length_map]; exact h0)
    have cells : ∀ (j : Nat) x, ls[j]? = some x → ∃ A c, w.cell? (ad.add j) = some (.slice A x.length c) ∧ Kd.C Kd.string w A (x.map wv).length (x.map wv) := fun j x hj => by
      obtain ⟨c, _, ⟨A, c2, rfl, hle, hK⟩, hcc⟩ := hc j (x.map wv) (by rw [List.getElem?_map, hj]; rfl)
      have := hcc 0 _ rfl
      refine ⟨A, c2, ?_, hK⟩
      simpa [Kd.slice] using this
    obtain ⟨A1, c1, h1, _⟩ := cells 0 _ (List.getElem?_eq_getElem h0)
    have hp := addr_plain h1
    have hlt := World.block_lt_of_cell? _ _ h1
    rw [hp] at hlt
    refine ⟨ad.block, ad.off, fun _ => ?_, fun i xs hi => ?_⟩
    · rw [e]
      have e2 : ad.add 0 = ad := by simp [Addr.add]
      rw [← e2, hp]
    · obtain ⟨A, c, q1, q2⟩ := cells i xs hi
      rw [addr_plain q1] at q1
      obtain ⟨g, o, q3, q4⟩ := lies_of_CS q2
      by_cases hx : 0 < xs.length
      · exact ⟨A, c, g, o, q1, fun h => (q3 h).1, q4, (q3 hx).2⟩
      · exact ⟨A, c, ad.block, 0, q1, fun h => absurd h hx, fun j x hj => absurd (List.getElem?_eq_some_iff.1 hj).1 (by omega), hlt⟩
  · exact ⟨0, 0, fun h => absurd h h0, fun i xs hi => absurd (List.getElem?_eq_some_iff.1 hi).1 (by omega)⟩
theorem cell1 {w w1 : World} {g j : Nat} {u : Value} (hb : Below w.heap.size w w1) (h : w.cell? ⟨g, j, none⟩ = some u) : w1.cell? ⟨g, j, none⟩ = some u := (hb.cell (World.block_lt_of_cell? _ _ h)).trans h
theorem C_of_keys {B X : World} {v5 : Value} {g6 c6 n5 : Nat} {ls : List (List Wd)} {vs vs2 : List Value} (h : WL B X v5 (.slice (some ⟨g6, 0, none⟩) ls.length c6) n5 ls.length ls vs vs2) (hl : ls.length ≤ 1048576) (hx : ∀ (i : Nat) xs, ls[i]? = some xs → xs.length ≤ 1048576) : Kd.C (Kd.slice 30 (Kd.int .u64)) X (some ⟨g6, 0, none⟩) (Pure.kssW ls).length (Pure.kssW ls) ∧ (Pure.kssW ls).length ≤ c6 := by
  have hlen : (Pure.kssW ls).length = ls.length := List.length_map _
  have hcap : ls.length ≤ c6 := by
    rcases h.row6.2 with ⟨e, _⟩ | ⟨gg, cap, cur, e, _, _, h3, _⟩
    · cases e
    · injection e with _ _ e; subst e; exact h3
  refine ⟨⟨rfl, by omega, fun _ => ⟨⟨g6, 0, none⟩, rfl, fun j p hj => ?_⟩⟩, by omega⟩
  have hjl : j < ls.length := by have := (List.getElem?_eq_some_iff.1 hj).1; omega
  obtain ⟨xs, hxs⟩ : ∃ xs, ls[j]? = some xs := ⟨_, List.getElem?_eq_getElem hjl⟩
  have hp : xs.map wk = p := by
    rw [List.getElem?_map, hxs] at hj
    injection hj
  subst hp
  obtain ⟨v, h1, ⟨b, c, cur, rfl, h2, h3, h4⟩⟩ := h.keys j xs (by rw [List.take_length]; exact hxs)
  have hxl := hx j xs hxs
  have hml : (xs.map wk).length = xs.length := List.length_map _
  refine ⟨[.slice (some ⟨b, 0, none⟩) (xs.map wk).length c], rfl, ⟨some ⟨b, 0, none⟩, c, rfl, by omega, ⟨rfl, by omega, fun _ => ⟨⟨b, 0, none⟩, rfl, fun k y hk => ⟨[.int .u64 y], rfl, rfl, fun i u hu => ?_⟩⟩⟩⟩, fun i u hu => ?_⟩
  · match i, hu with
    | 0, hu =>
      simp only [List.getElem?_cons_zero, Option.some.injEq] at hu
      subst hu
      show X.cell? ((⟨b, 0, none⟩ : Addr).add (k * 1 + 0)) = _
      rw [Nat.mul_one, Nat.add_zero, add_plain]
      rw [List.getElem?_map] at hk
      cases hz : xs[k]? with
      | none => rw [hz] at hk; cases hk
      | some z => rw [hz] at hk; injection hk with hk; subst hk; exact h3 k z hz
    | i + 1, hu => simp at hu
  · match i, hu with
    | 0, hu =>
      simp only [List.getElem?_cons_zero, Option.some.injEq] at hu
      subst hu
      show X.cell? ((⟨g6, 0, none⟩ : Addr).add (j * 1 + 0)) = _
      rw [Nat.mul_one, Nat.add_zero, add_plain, World.ownsRow.cellAt h.row6 j (by omega), h1, hml]
    | i + 1, hu => simp at hu
theorem its_of {B X : World} {g5 c5 n6 : Nat} {v6 : Value} {ls : List (List Wd)} {vs vs2 : List Value} (h : WL B X (.slice (some ⟨g5, 0, none⟩) ls.length c5) v6 ls.length n6 ls vs vs2) (hl : ls.length ≤ 1048576) (hm : ((mergeL wk ls).length + 1) * 24 ≤ 140737488355328) :
    Calls Try.prog 22 #[.func (.func 19) #[] #[], .slice (some ⟨g5, 0, none⟩) ls.length c5] X fun e w' => ∃ lb D, e = .returned (.func (.func 49) #[] lb) ∧ Below X.heap.size X w' ∧ ItOk wk wv ⟨49, lb, D, mergeL wk ls⟩ w' := by
  obtain ⟨its, q1, q2⟩ := h.its
  rw [List.take_length] at q1
  have hln : its.length = ls.length := by rw [← q1, List.length_map]
  have hcl := merge_calls (ek := wk) (ev := wv) 19 g5 c5 its X (fun k it hk => by
    have hkl := (List.getElem?_eq_some_iff.1 hk).1
    rw [World.ownsRow.cellAt h.row5 k (by omega)]
    exact (q2 k it hk).1) (fun it hit => by
    obtain ⟨k, hk, rfl⟩ := List.getElem_of_mem hit
    exact (q2 k _ (List.getElem?_eq_getElem hk)).2.1) (by omega)
  rw [hln] at hcl
  refine hcl.mono ?_
  rintro e w' ⟨bL, bK, A, gL, cap, rfl, hb, hml, _⟩
  have hit := mergeIt_ok goes19 key19_calls w' hml (by rw [q1]; exact hm)
  unfold mergeIt at hit
  rw [q1] at hit
  exact ⟨_, _, rfl, hb, hit⟩
def keyv (x : Wd) : Value := .int .u64 (wk x)
set_option maxHeartbeats 8000000 in
set_option maxRecDepth 1000000 in
theorem words_walk {w : World} (A0 : Option Addr) (c0 : Nat) (ls : List (List Wd)) (hC0 : Kd.C (Kd.slice 9 Kd.string) w A0 (ls.map (List.map wv)).length (ls.map (List.map wv))) (hb : ls.length + (ls.map List.length).sum ≤ 1048576) :
    Calls Try.prog 5 #[.slice A0 ls.length c0] w fun e w' => e = .returned (.bool true) ∧ Below w.heap.size w w' := by
  obtain ⟨g0, o0, hA, hrows⟩ := rows_of_CS hC0
  have HA := Lib.hid hA
  have HRW := Lib.hid hrows
  have HS : Hid (ls.length ≤ 1048576 ∧ ∀ (i : Nat) xs, ls[i]? = some xs → xs.length ≤ 1048576) := Lib.hid ⟨by omega, fun i xs hx => by have h1 := MergeL.len_le_total (List.mem_of_getElem? hx); unfold total at h1; omega⟩
  have HSB := Lib.hid hb
  have hsm : Pure.Small (Pure.kssW ls) := ⟨by simp; omega, fun i => by
    by_cases hi : i < ls.length
    · rw [Pure.kssW_ln hi]; exact HS.out.2 i _ (List.getElem?_eq_getElem hi)
    · unfold Pure.ln; rw [List.getD_eq_getElem?_getD, List.getElem?_eq_none (by simp; omega)]; exact Nat.zero_le _⟩
  have htot : total (Pure.rem (Pure.kssW ls) (List.replicate (Pure.kssW ls).length 0)) ≤ 1048576 := by rw [Pure.remW_total]; unfold total; omega
  obtain ⟨K, hK⟩ := Pure.refMerge_ev hsm htot
  obtain ⟨t, htt⟩ : ∃ t, Pure.places (Pure.kssW ls) = t := ⟨_, rfl⟩
  have HK : Hid (inclineref13_Merge.f K (Pure.kssW ls) = some t) := Lib.hid (by rw [← htt]; exact hK K (Nat.le_refl _))
  have HTP : Hid (t.map (Pure.phiW ls) = mergeL wk ls) := Lib.hid (by rw [← htt]; exact Pure.placesW_phiW)
  have HTM : Hid (∀ p ∈ t, ∃ a b : Nat, ∃ ha : a < ls.length, p = Pure.mk54 a b ∧ b < (ls[a]).length) := Lib.hid (by rw [← htt]; exact fun p hp => Pure.placesW_mem hp)
  have HTL : Hid (t.length ≤ 1048576) := Lib.hid (by rw [← htt]; exact Nat.le_trans (mergeL_length _) htot)
  clear hsm htot hK htt
  obtain ⟨i46, hi46, hz460, hz461, hz462⟩ := info_parts MergeS.info46
  obtain ⟨i49, hi49, hz490, hz491, hz492⟩ := info_parts info49
  obtain ⟨i30, hi30, hz300, hz301, hz302⟩ := info_parts info30
  clear hC0 hA hrows hb
  refine (callsIn_wide (n := 0)).1 (callsIn_of_wp_marks Try.func5 rfl trivial (wpIn_wide.2 ?_) rfl)
  simp only [Try.ntmps5, List.size_toArray, List.length_cons, List.length_nil, Nat.reduceAdd, Nat.reduceSub, Array.replicate_succ, Array.replicate_zero, List.push_toArray, List.append_toArray, List.nil_append, List.cons_append]
  go_upto_region 4 with (go_at_call 10; go_must (refine (inclinelaw13_shown.calls true _ rfl).mono ?_; rintro e B ⟨rfl, hb⟩; have HB0 := Lib.hid hb; clear hb))
  have hbx : B.cell? ⟨w.heap.size, 0, none⟩ = some (.slice A0 ls.length c0) := cell1 HB0.out (cell1 ((Below.refl _ _).alloc (Nat.le_refl _) _) (by rw [cell_of_row _ _ 0 _ _ _ (World.alloc_heap_new w _)]; rfl))
  have hwB : Hid (Below w.heap.size w B) := Lib.hid ((((Below.refl _ w).alloc (Nat.le_refl _) _).alloc (by simp) _).trans (HB0.out.mono (by simp; omega)))
  have HBX := Lib.hid hbx
  have HBR : Hid (B.heap[w.heap.size + 1]? = some (.cells #[.bool false] 4 (0, 0))) := Lib.hid ((HB0.out.block (w.heap.size + 1) (by simp)).trans (by
    have := World.alloc_heap_new (w.alloc (.cells #[.slice A0 ls.length c0] 41)) (.cells #[.bool false] 4)
    rwa [World.size_alloc] at this))
  have HW0 : Hid (WL B ((B.alloc (.cells #[] 46)).alloc (.cells #[] 49)) (.slice (some ⟨B.heap.size, 0, none⟩) 0 0) (.slice (some ⟨B.heap.size + 1, 0, none⟩) 0 0) 0 0 ls [] []) := Lib.hid
    ⟨((Below.refl _ B).alloc (Nat.le_refl _) _).alloc (by simp) _, (World.ownsRow_lit (base := B.heap.size) (e := 46) (size := 1) B #[] 0 (Nat.le_refl _) (by unfold maxLen; omega) rfl).alloc _, ⟨[], rfl, fun k it h => by simp at h⟩, by
      have := World.ownsRow_lit (base := B.heap.size) (e := 49) (size := 1) (B.alloc (.cells #[] 46)) #[] 0 (by simp) (by unfold maxLen; omega) rfl
      rwa [World.size_alloc] at this, fun k xs h => by simp at h⟩
  clear hbx
  go_wp2_with (fail)
  go_loopg [5, 6, 7] ls.length (fun kq v5 v6 v7 w' => ∃ (i g5 c5 g6 c6 : Nat) (vs vs2 : List Value), v7 = .int .i64 (i : Int) ∧ v5 = .slice (some ⟨g5, 0, none⟩) i c5 ∧ v6 = .slice (some ⟨g6, 0, none⟩) i c6 ∧ Hid (i ≤ ls.length ∧ ls.length ≤ kq + i) ∧ Hid (WL B w' (.slice (some ⟨g5, 0, none⟩) i c5) (.slice (some ⟨g6, 0, none⟩) i c6) i i ls vs vs2))
  case atStart => exact ⟨0, B.heap.size, 0, B.heap.size + 1, 0, [], [], rfl, rfl, rfl, Lib.hid ⟨Nat.zero_le _, Nat.le_refl _⟩, HW0⟩
  case round =>
    obtain ⟨i, g5, c5, g6, c6, vs, vs2, rfl, rfl, rfl, HI, HW⟩ := hrel
    have hbx : wr.cell? ⟨w.heap.size, 0, none⟩ = some (.slice A0 ls.length c0) := cell1 HW.out.below HBX.out
    by_cases hlt : i < ls.length
    · have hd : decide ((i : Int) < (ls.length : Int)) = true := decide_eq_true (Int.ofNat_lt.2 hlt)
      have hd2 : decide (i < ls.length) = true := decide_eq_true hlt
      have hb1 : (0 : Int) ≤ (i : Int) := Int.natCast_nonneg i
      have hb2 : (i : Int) < (ls.length : Int) := Int.ofNat_lt.2 hlt
      obtain rfl := HA.out (by omega)
      obtain ⟨xs, hxs⟩ : ∃ xs, ls[i]? = some xs := ⟨_, List.getElem?_eq_getElem hlt⟩
      obtain ⟨A, cA, g, o, r0, r1, r2, r3⟩ := HRW.out i xs hxs
      have r0 := cell1 (hwB.out) r0
      have r2 : CellsAt wk wv B g o xs := r2.keep _ _ (hwB.out.block g r3)
      have r3 : g < B.heap.size := Nat.lt_of_lt_of_le r3 hwB.out.size
      have rc : wr.cell? ⟨g0, o0 + i, none⟩ = some (.slice A xs.length cA) := cell1 HW.out.below r0
      have HXS := Lib.hid hxs
      have HLX := Lib.hid (HS.out.2 i xs hxs)
      have HR := Lib.hid (And.intro r0 (And.intro r1 (And.intro r2 r3)))
      obtain ⟨i2, hi2⟩ : ∃ i2, i + 1 = i2 := ⟨_, rfl⟩
      have hi3 : (i : Int) + 1 = (i2 : Int) := by rw [← hi2]; rfl
      have HI2 := Lib.hid (loop_nums hi2 hlt HI.out.2)
      have hw2 : IntKind.i64.wrap (i2 : Int) = (i2 : Int) := IntWalk.i64_in _ (by have := HI2.out.1; have := HS.out.1; omega)
      have HI3 := Lib.hid hi2
      have HIL : Hid (i + 1 ≤ 1048577) := Lib.hid (by have := HS.out.1; omega)
      clear r0 r1 r2 r3 hxs hlt hi2
      go_upto_region 11 with (first
        | (go_at_call 20; go_must (refine (listed_calls A xs.length cA wr).mono ?_; rintro e X1 ⟨rfl, hb, hn⟩; have HB1 := Lib.hid hb; have HN1 := Lib.hid hn; have HW1 := Lib.hid (HW.out.step hb); clear hb hn))
        | (at_builtin; go_must (refine wpList_append_own_at _ rfl (.tmp 25) (.tmp 31) 43 rfl B.heap.size 46 i46 _ 1 8 Try.underlying43 hi46 hz460 hz461 hz462 rfl (by decide) (.slice (some ⟨g5, 0, none⟩) i c5) i vs (by rfl) (HW1.out.row5.alloc _) ⟨X1.heap.size, 0, none⟩ 1 1 [.func (.func 47) #[] #[.pointer (some ⟨wr.heap.size, 0, none⟩)]] (by rfl) (by rfl) (World.news_of_block (cs := #[.func (.func 47) #[] #[.pointer (some ⟨wr.heap.size, 0, none⟩)]]) (t := 46) (fr := (0, 0)) (World.alloc_heap_new X1 _)) (by intro u hu; rw [List.mem_singleton] at hu; subst hu; rfl) (by have := HIL.out; unfold maxLen; omega) (by have := HIL.out; omega) (by rw [World.size_alloc]; exact Nat.le_succ_of_le HW1.out.below.size) ?_; intro v5' X2 ho5 hg5 hn5 hat5; obtain ⟨g5', c5', e5, _, _⟩ := ho5.form (Nat.succ_pos _); subst e5; have HW2 := Lib.hid (HW.out.more5 HXS.out HR.out.2.1 HR.out.2.2.1 HR.out.2.2.2 HLX.out HB1.out HN1.out ho5 hg5); clear ho5 hg5 hn5 hat5)))
      have hkf := goes19
      go_wp2_with (fail)
      go_loopg [8, 9] xs.length (fun kq v8 v9 w' => ∃ (j g8 c8 : Nat), v9 = .int .i64 (j : Int) ∧ v8 = .slice (some ⟨g8, 0, none⟩) j c8 ∧ Hid (j ≤ xs.length ∧ xs.length ≤ kq + j) ∧ Hid (w'.ownsRow X2.heap.size 30 1 (.slice (some ⟨g8, 0, none⟩) j c8) j ((xs.take j).map keyv)) ∧ Hid (Below X2.heap.size X2 w'))
      case atStart => exact ⟨0, X2.heap.size, 0, rfl, rfl, Lib.hid ⟨Nat.zero_le _, Nat.le_refl _⟩, Lib.hid (World.ownsRow_lit (base := X2.heap.size) (e := 30) (size := 1) X2 #[] 0 (Nat.le_refl _) (by unfold maxLen; omega) rfl), Lib.hid ((Below.refl _ _).alloc (Nat.le_refl _) _)⟩
      case round =>
        obtain ⟨j, g8, c8, rfl, rfl, HJ, HO, HBY⟩ := hrel
        have hBy : Below B.heap.size B wr := HW2.out.below.trans (HBY.out.mono HW2.out.below.size)
        have hbx2 : wr.cell? ⟨w.heap.size, 0, none⟩ = some (.slice (some ⟨g0, o0, none⟩) ls.length c0) := cell1 hBy HBX.out
        have rc2 : wr.cell? ⟨g0, o0 + i, none⟩ = some (.slice A xs.length cA) := cell1 hBy HR.out.1
        by_cases hjt : j < xs.length
        · have hd3 : decide ((j : Int) < (xs.length : Int)) = true := decide_eq_true (Int.ofNat_lt.2 hjt)
          have hd4 : decide (j < xs.length) = true := decide_eq_true hjt
          have hb3 : (0 : Int) ≤ (j : Int) := Int.natCast_nonneg j
          have hb4 : (j : Int) < (xs.length : Int) := Int.ofNat_lt.2 hjt
          obtain ⟨x, hx⟩ : ∃ x, xs[j]? = some x := ⟨_, List.getElem?_eq_getElem hjt⟩
          have hA3 := HR.out.2.1 (by omega)
          have rx : wr.cell? ⟨g, o + j, none⟩ = some (.string (wv x)) := cell1 hBy (HR.out.2.2.1 j x hx)
          obtain ⟨j2, hj2⟩ : ∃ j2, j + 1 = j2 := ⟨_, rfl⟩
          have hj3 : (j : Int) + 1 = (j2 : Int) := by rw [← hj2]; rfl
          have HJ2 := Lib.hid (loop_nums hj2 hjt HJ.out.2)
          have hwj : IntKind.i64.wrap (j2 : Int) = (j2 : Int) := IntWalk.i64_in _ (by have := HJ2.out.1; have := HLX.out; omega)
          have HTK : Hid ((xs.take j2).map keyv = (xs.take j).map keyv ++ [keyv x]) := Lib.hid (by rw [← hj2, take_snoc hx, List.map_append]; rfl)
          have HJ3 := Lib.hid hj2
          have HJL : Hid (j + 1 ≤ 1048577) := Lib.hid (by have := HLX.out; omega)
          clear hjt hx hj2 hBy
          subst hA3
          go_wp2_with (first
            | (refine (key19_calls x _).mono ?_; rintro e Y1 ⟨rfl, hb⟩; have HY1 := Lib.hid hb; clear hb)
            | (at_builtin; go_must (refine wpList_append_own_at _ rfl (.tmp 43) (.tmp 53) 49 rfl X2.heap.size 30 i30 _ 1 8 Try.underlying49 hi30 hz300 hz301 hz302 rfl (by decide) (.slice (some ⟨g8, 0, none⟩) j c8) j ((xs.take j).map keyv) (by rfl) ((ownsRow_keep HO.out (fun k hk => HY1.out.block k (HO.out.lt k hk).2)).alloc _) ⟨Y1.heap.size, 0, none⟩ 1 1 [.int .u64 (wk x)] (by rfl) (by rfl) (World.news_of_block (cs := #[.int .u64 (wk x)]) (t := 30) (fr := (0, 0)) (World.alloc_heap_new Y1 _)) (by intro u hu; rw [List.mem_singleton] at hu; subst hu; rfl) (by have := HJL.out; unfold maxLen; omega) (by have := HJL.out; omega) (by rw [World.size_alloc]; exact Nat.le_succ_of_le (Nat.le_trans HBY.out.size HY1.out.size)) ?_; intro v8' Y2 ho8 hg8 hn8 hat8; obtain ⟨g8', c8', e8, _, _⟩ := ho8.form (Nat.succ_pos _); subst e8; have O8 := Lib.hid ho8; have G8 := Lib.hid hg8; clear ho8 hg8 hn8 hat8)))
          have hBz : Below X2.heap.size X2 Y2 := by
            have b1 : Below X2.heap.size X2 Y1 := HBY.out.trans (HY1.out.mono HBY.out.size)
            refine b1.trans ⟨G8.out.os, G8.out.tape, G8.out.output, by have := G8.out.size; rw [World.size_alloc] at this; omega, fun k hk => ?_⟩
            have hs1 := b1.size
            exact (G8.out.block k (by rw [World.size_alloc]; omega) (fun e => by have := (HO.out.lt k e.symm).1; omega)).trans (Below.heap_alloc Y1 _ k (by omega))
          have HBZ := Lib.hid hBz
          have HO2 : Hid (Y2.ownsRow X2.heap.size 30 1 (.slice (some ⟨g8', 0, none⟩) (j + 1) c8') (j + 1) ((xs.take j2).map keyv)) := Lib.hid (by rw [HTK.out]; exact O8.out)
          rw [HJ3.out] at HO2 ⊢
          clear hBz
          go_roundg (xs.length - j2)
          case measure => exact HJ2.out.2.2
          case rel => exact ⟨j2, g8', c8', rfl, rfl, Lib.hid ⟨HJ2.out.1, HJ2.out.2.1⟩, HO2, HBZ⟩
        · have hd3 : decide ((j : Int) < (xs.length : Int)) = false := decide_eq_false (fun h => hjt (Int.ofNat_lt.1 h))
          have hd4 : decide (j < xs.length) = false := decide_eq_false hjt
          have hje : j = xs.length := Nat.le_antisymm HJ.out.1 (Nat.not_lt.1 hjt)
          subst hje
          have hkr : KeyRow wr (.slice (some ⟨g8, 0, none⟩) xs.length c8) xs := by
            have ho := HO.out
            rw [List.take_length] at ho
            rcases ho.2 with ⟨e, _⟩ | ⟨gg, cap, cur, e, _, h2, h3, _⟩
            · cases e
            · injection e with e _ ec
              injection e with e
              injection e with e
              subst e ec
              exact ⟨g8, c8, cur, rfl, h3, fun k y hk => by
                have hkl := (List.getElem?_eq_some_iff.1 hk).1
                rw [World.ownsRow.cellAt ho k (by omega), List.getElem?_map, hk]
                rfl, h2⟩
          have HKR := Lib.hid hkr
          have HW3 := Lib.hid (HW2.out.step HBY.out)
          clear hjt hkr hBy
          go_wp2_with (at_builtin; go_must (refine wpList_append_own_at _ rfl (.tmp 55) (.tmp 57) 44 rfl B.heap.size 49 i49 _ 1 24 Try.underlying44 hi49 hz490 hz491 hz492 rfl (by decide) (.slice (some ⟨g6, 0, none⟩) i c6) i vs2 (by rfl) (HW3.out.row6.alloc _) ⟨wr.heap.size, 0, none⟩ 1 1 [.slice (some ⟨g8, 0, none⟩) xs.length c8] (by rfl) (by rfl) (World.news_of_block (cs := #[.slice (some ⟨g8, 0, none⟩) xs.length c8]) (t := 49) (fr := (0, 0)) (World.alloc_heap_new wr _)) (by intro u hu; rw [List.mem_singleton] at hu; subst hu; rfl) (by have := HIL.out; unfold maxLen; omega) (by have := HIL.out; omega) (by rw [World.size_alloc]; exact Nat.le_succ_of_le HW3.out.below.size) ?_; intro v6' X3 ho6 hg6 hn6 hat6; obtain ⟨g6', c6', e6, _, _⟩ := ho6.form (Nat.succ_pos _); subst e6; have HW4 := Lib.hid (HW3.out.more6 HXS.out HKR.out ho6 hg6); clear ho6 hg6 hn6 hat6))
          rw [HI3.out] at HW4 ⊢
          go_roundg (ls.length - i2)
          case measure => exact HI2.out.2.2
          case rel => exact ⟨i2, g5', c5', g6', c6', _, _, rfl, rfl, rfl, Lib.hid ⟨HI2.out.1, HI2.out.2.1⟩, HW4⟩
    · have hd : decide ((i : Int) < (ls.length : Int)) = false := decide_eq_false (fun h => hlt (Int.ofNat_lt.1 h))
      have hd2 : decide (i < ls.length) = false := decide_eq_false hlt
      have hie : i = ls.length := Nat.le_antisymm HI.out.1 (Nat.not_lt.1 hlt)
      subst hie
      have hck := C_of_keys HW.out HS.out.1 HS.out.2
      have HCK := Lib.hid hck
      have HMM : Hid (((mergeL wk ls).length + 1) * 24 ≤ 140737488355328) := Lib.hid (by rw [← HTP.out, List.length_map]; have := HTL.out; omega)
      clear hck hlt
      go_wp2_with (first
        | (go_at_call 21; go_must (have hcl := inclineref13_Merge.calls K (some ⟨g6, 0, none⟩) c6 (Pure.kssW ls) t wr HCK.out.1 HCK.out.2 HK.out; rw [show (Pure.kssW ls).length = ls.length from List.length_map _] at hcl; refine hcl.mono ?_; rintro e Y1 ⟨v0, rfl, hR, hb⟩; obtain ⟨Aw, cw, rfl, hcw, hCw⟩ := Kd.R_reads hR; have HCW := Lib.hid (And.intro hCw hcw); have HWY := Lib.hid (HW.out.step hb); clear hcl hR hb hCw hcw))
        | (go_at_call 22; go_must (refine (its_of (HWY.out.step ((Below.refl _ Y1).alloc (Nat.le_refl _) _)) HS.out.1 HMM.out).mono ?_; rintro e Y3 ⟨lb, D, rfl, hb, hit⟩; have HY3 := Lib.hid hb; have HIT := Lib.hid hit; have hnil : ∀ W, (binOp .eql 46 (.func (.func 49) #[] lb) .nilFunc).run Try.prog W = .ok (.bool false) W := (fun W => by kernel_rfl); clear hb hit)))
      refine (wpIn_wide (n := 0)).1 ?_
      obtain ⟨X, hX⟩ : ∃ X, Y3.alloc (.cells #[.int .i64 0] 3) = X := ⟨_, rfl⟩
      have hsz : X.heap.size = Y3.heap.size + 1 := by rw [← hX]; simp
      have hxn : X.heap[Y3.heap.size]? = some (.cells #[.int .i64 0] 3 (0, 0)) := by rw [← hX]; exact World.alloc_heap_new Y3 _
      have hbn : Y3.heap.size < X.heap.size := by omega
      have hDlt : ∀ k, D k → k < Y3.heap.size := HIT.out.lt
      have HBW : Hid (∀ (T : Blocks) (pre : List Wd) (Y : World), NC X Y3.heap.size pre T Y → Below Y1.heap.size Y1 Y ∧ Below B.heap.size B Y ∧ Below w.heap.size w Y) := Lib.hid (fun T pre Y h => by
        subst hX
        have b3 : Below Y3.heap.size Y3 Y := h.below
        have b1 : Below Y1.heap.size Y1 Y3 := ((Below.refl _ Y1).alloc (Nat.le_refl _) _).trans (HY3.out.mono (by simp))
        have b13 : Below Y1.heap.size Y1 Y := b1.trans (b3.mono b1.size)
        have bB : Below B.heap.size B Y := HWY.out.below.trans (b13.mono HWY.out.below.size)
        exact ⟨b13, bB, hwB.out.trans (bB.mono hwB.out.size)⟩)
      have hY1Y3 : Y1.heap.size + 1 ≤ Y3.heap.size := by have := HY3.out.size; rwa [World.size_alloc] at this
      have HN50 : Hid (∀ (T : Blocks) (pre : List Wd) (Y : World), NC X Y3.heap.size pre T Y → Y.cell? ⟨Y1.heap.size, 0, none⟩ = some (.slice Aw t.length cw)) := Lib.hid (fun T pre Y h => by
        subst hX
        have b3 : Below Y3.heap.size Y3 Y := h.below
        have c1 : Y3.cell? ⟨Y1.heap.size, 0, none⟩ = some (.slice Aw t.length cw) := cell1 HY3.out (by rw [cell_of_row _ _ 0 _ _ _ (World.alloc_heap_new Y1 _)]; rfl)
        exact cell1 b3 c1)
      rw [hX]
      refine wpIn_rangeFunc_D (ps := #[67]) (gf := 49) (lb := lb) rfl goes44 (HIT.out.seq.same (by omega) (fun k hk hl => by rw [← hX]; exact Below.heap_alloc Y3 _ k hl)) (fun k hk => by have := hDlt k hk; omega) (fun _ => rfl)
        (NC X Y3.heap.size) (fun _ _ _ _ => False)
        (fun pre x T a' Y => a' = { tmps := #[Value.slice A0 ls.length c0, Value.pointer (some { block := w.heap.size, off := 0 }), Value.pointer (some { block := w.heap.size + 1, off := 0 }), Value.bool true, Value.func (Fn.func 19) #[] #[], Value.slice (some { block := g5, off := 0 }) ls.length c5, Value.slice (some { block := g6, off := 0 }) ls.length c6, Value.int IntKind.i64 (ls.length : Int), u8, u9, Value.pointer (some { block := Y1.heap.size, off := 0 }), Value.func (Fn.func 49) #[] lb, Value.pointer (some { block := Y3.heap.size, off := 0 }), .string (wv x), Value.bool true, Value.bool true, Value.bool false, Value.slice (some { block := B.heap.size, off := 0 }) 0 0, Value.slice (some { block := B.heap.size + 1, off := 0 }) 0 0, Value.int IntKind.i64 (ls.length : Int), Value.slice A0 ls.length c0, Value.int IntKind.i64 (ls.length : Int), Value.bool false, u23, u24, u25, u26, u27, u28, u29, u30, u31, u32, u33, u34, u35, u36, u37, u38, u39, u40, u41, u42, u43, u44, u45, u46, u47, u48, u49, u50, u51, u52, u53, u54, u55, u56, u57, u58, Value.slice (some { block := g6, off := 0 }) ls.length c6, Value.slice Aw t.length cw, Value.func (Fn.func 19) #[] #[], Value.slice (some { block := g5, off := 0 }) ls.length c5, Value.func (Fn.func 49) #[] lb, Value.func (Fn.func 49) #[] lb, Value.bool false, Value.func (Fn.func 49) #[] lb, .string (wv x), undef, undef, undef, undef, undef, undef, undef, undef, undef, undef, undef, undef, undef, undef, undef, undef, undef, undef, undef, undef, undef, undef, undef, undef, undef, undef, undef, undef, undef, undef, undef, undef], defers := [] })
        (NC.abide hbn) (fun _ _ _ _ _ _ h _ => h) (NC.ownT hbn) (fun _ _ _ _ _ _ h _ _ => h) (fun pre x T a' _ Y Y' row h _ _ => h) (NC.start hxn) ?assign ?body ?done ?stop
      case stop => exact fun _ _ _ _ _ _ _ h => h.elim
      case assign =>
        intro lr pre x T' Y K hG hnx hK
        gi_wp2
        exact hK _ _ (KeepsFrom.refl _ Y) (fun k _ hk => rfl) hG rfl
      case body =>
        rintro lr pre x T' a' Y hB hrec hnT hG rfl ⟨more, hmore⟩
        have HG := Lib.hid hG
        obtain ⟨n, hn⟩ : ∃ n, pre.length = n := ⟨_, rfl⟩
        have hget : (mergeL wk ls)[n]? = some x := by
          have e : pre ++ [x] ++ more = mergeL wk ls := hmore
          rw [← e, ← hn]; simp
        rw [← HTP.out, List.getElem?_map] at hget
        obtain ⟨p, hp, hpx⟩ : ∃ p, t[n]? = some p ∧ Pure.phiW ls p = x := by
          cases h : t[n]? with
          | none => rw [h] at hget; cases hget
          | some p => rw [h] at hget; injection hget with hget; exact ⟨p, rfl, hget⟩
        have hnt : n < t.length := (List.getElem?_eq_some_iff.1 hp).1
        obtain ⟨ia, ib, ha, rfl, hbl⟩ := HTM.out p (List.mem_of_getElem? hp)
        rw [Pure.phiW_mk ha hbl] at hpx
        obtain ⟨xs, hxs⟩ : ∃ xs, ls[ia]? = some xs := ⟨_, List.getElem?_eq_getElem ha⟩
        obtain ⟨_, hxs2⟩ := List.getElem?_eq_some_iff.1 hxs
        have hbx1 : ib < xs.length := by rw [← hxs2]; exact hbl
        have hxb : xs[ib]? = some x := by subst hxs2; rw [List.getElem?_eq_getElem hbl, hpx]
        obtain rfl := HA.out (by omega)
        obtain ⟨A, cA, g, o, r0, r1, r2, r3⟩ := HRW.out ia xs hxs
        obtain rfl := r1 (by omega)
        obtain ⟨b1, bB, bw⟩ := HBW.out T' pre Y hG
        have rc := cell1 bw r0
        have rx := cell1 bw (r2 ib x hxb)
        have k12 : Y.cell? ⟨Y3.heap.size, 0, none⟩ = some (.int .i64 (n : Int)) := by rw [cell_of_row Y _ 0 _ _ _ hG.n, hn]; rfl
        have f12 : Y.frozen? ⟨Y3.heap.size, 0, none⟩ = false := by simp [World.frozen?, hG.n]
        have k1 : Y.cell? ⟨w.heap.size, 0, none⟩ = some (.slice (some ⟨g0, o0, none⟩) ls.length c0) := cell1 bB HBX.out
        have k10 := HN50.out T' pre Y hG
        obtain ⟨ad, hAw, q0, q1⟩ := at_T54 (Kd.C_below HCW.out.1 b1) (n : Int) (Int.natCast_nonneg n) (Int.ofNat_lt.2 hnt)
        have hrd : rd_T54 t (n : Int) = Pure.mk54 ia ib := by
          unfold rd_T54
          rw [Int.toNat_natCast, List.getD_eq_getElem?_getD, hp]; rfl
        rw [hrd, Int.toNat_natCast] at q0 q1
        replace q0 : Y.cell? (ad.add (n * 2)) = some (.int .i64 (ia : Int)) := q0
        replace q1 : Y.cell? ⟨(ad.add (n * 2)).block, (ad.add (n * 2)).off + 1, none⟩ = some (.int .i64 (ib : Int)) := q1
        subst hAw
        have d1 : decide ((t.length : Int) ≤ (n : Int)) = false := decide_eq_false (by omega)
        have d2 : decide (t.length ≤ n) = false := decide_eq_false (by omega)
        have n1 : (0 : Int) ≤ (n : Int) := Int.natCast_nonneg n
        have n2 : (n : Int) < (t.length : Int) := Int.ofNat_lt.2 hnt
        have a1 : (0 : Int) ≤ (ia : Int) := Int.natCast_nonneg ia
        have a2 : (ia : Int) < (ls.length : Int) := Int.ofNat_lt.2 ha
        have b2 : (0 : Int) ≤ (ib : Int) := Int.natCast_nonneg ib
        have b3 : (ib : Int) < (xs.length : Int) := Int.ofNat_lt.2 hbx1
        obtain ⟨n3, hn3⟩ : ∃ n3, n + 1 = n3 := ⟨_, rfl⟩
        have hn4 : (n : Int) + 1 = (n3 : Int) := by rw [← hn3]; rfl
        have hw3 : IntKind.i64.wrap (n3 : Int) = (n3 : Int) := IntWalk.i64_in _ (by have := HTL.out; omega)
        have HLN : Hid (((pre ++ [x]).length : Int) = (n3 : Int)) := Lib.hid (by rw [List.length_append, hn]; simp; omega)
        have HBN := Lib.hid hbn
        have HDL := Lib.hid hDlt
        have HSZ := Lib.hid hsz
        clear hX hsz hxn hbn hDlt hY1Y3 hB hrec hnT hmore hget hp hpx hnt ha hbl hxs hxs2 hbx1 hxb r0 r1 r2 r3 b1 bB bw hrd hn hn3 hG
        dsimp only
        gi_upto_region 24 with (fail)
        refine RangeD.region_round lr rfl (by kernel_rfl) (by kernel_rfl) (by kernel_rfl) ?_
        repeat (gi_big_quiet_step (fail))
        refine wpQuietIn_nil ?_
        intro _ hw'
        obtain ⟨nq, hw''⟩ := hw'
        subst hw''
        gi_wp2
        obtain ⟨q1, q2, q3⟩ := (HG.out.drew nq).next HBN.out (x := x) (u := .int .i64 (n3 : Int)) (by rw [HLN.out])
        exact ⟨⟨q2.1, q2.2⟩, q3 D (fun k hk => by have := HDL.out k hk; have := HSZ.out; omega), q1⟩
      case done =>
        intro C xs T' Y hC hxs hG hmark
        have hxs2 : xs = mergeL wk ls := hxs
        subst hxs2
        obtain ⟨b1, bB, bw⟩ := HBW.out T' _ Y hG
        have hlen : (mergeL wk ls).length = t.length := by rw [← HTP.out, List.length_map]
        have k12 : Y.cell? ⟨Y3.heap.size, 0, none⟩ = some (.int .i64 (t.length : Int)) := by rw [cell_of_row Y _ 0 _ _ _ hG.n, hlen]; rfl
        have k10 := HN50.out T' _ Y hG
        have hr2 : Y.heap[w.heap.size + 1]? = some (.cells #[.bool false] 4 (0, 0)) := (bB.block _ (Array.getElem?_eq_some_iff.1 HBR.out).1).trans HBR.out
        have k2 : Y.cell? ⟨w.heap.size + 1, 0, none⟩ = some (.bool false) := by rw [cell_of_row Y _ 0 _ _ _ hr2]; rfl
        have f2 : Y.frozen? ⟨w.heap.size + 1, 0, none⟩ = false := by simp [World.frozen?, hr2]
        have d1 : decide ((t.length : Int) = (t.length : Int)) = true := decide_eq_true rfl
        have hwC : w.heap.size + 1 < C := by
          have h1 := (Array.getElem?_eq_some_iff.1 HBR.out).1
          have h2 := HWY.out.below.size
          omega
        have HMK := Lib.hid hmark
        have HBWY := Lib.hid bw
        have HR2 := Lib.hid hr2
        have HWC := Lib.hid hwC
        clear hX hsz hxn hbn hDlt hY1Y3 hC hxs hG hmark b1 bB bw hlen hr2 hwC
        dsimp only
        go_wp2_with (fail)
        refine leave_cell (g := w.heap.size + 1) (v := .bool true) rfl rfl Try.underlying4 rfl ?_ ?_ ⟨rfl, ?_⟩
        · exact (Below.heap_setCell _ ⟨w.heap.size + 1, 0, none⟩ _ C (by have := HWC.out; show C ≠ w.heap.size + 1; omega)).trans HMK.out
        · exact (World.cell?_of_block (World.putObj_heap_other (by have := HWC.out; show w.heap.size + 1 ≠ C; omega))).trans (World.cell?_setCell_same _ _ _ k2)
        · refine ⟨HBWY.out.os, HBWY.out.tape, HBWY.out.output, ?_, fun k hk => ?_⟩
          · have := HBWY.out.size
            simpa [World.putObj, World.setCell] using this
          · exact (World.putObj_heap_other (by have := HWC.out; omega)).trans ((Below.heap_setCell _ ⟨w.heap.size + 1, 0, none⟩ _ k (Nat.ne_of_lt (Nat.lt_succ_of_lt hk))).trans (HBWY.out.block k hk))
end Go.Proofs.Ytojbfjfjhfnopaa.MergeS
namespace Go.Proofs.Ytojbfjfjhfnopaa
open Go.RowKit Go.Proofs.YtojbfjfjhfnopaaW.PrintWords Go.Proofs.Ytojbfjfjhfnopaa.Reading
/-- A text's letters, and those of lists of texts. -/
def bulkT (xs : List ByteArray) : Nat := (xs.map fun s => s.size + 1).sum + 1
theorem bulkT_len (xs : List ByteArray) : xs.length + 1 ≤ bulkT xs := by
  unfold bulkT
  induction xs with
  | nil => simp
  | cons x xs ih => simp only [List.map_cons, List.sum_cons, List.length_cons]; omega
theorem bulkT_mem {xs : List ByteArray} {s : ByteArray} (h : s ∈ xs) : s.size ≤ bulkT xs := by
  unfold bulkT
  induction xs with
  | nil => cases h
  | cons x xs ih =>
    simp only [List.map_cons, List.sum_cons]
    rcases List.mem_cons.1 h with h | h
    · subst h; omega
    · have := ih h; omega
theorem bulkT_sum (l : List (List ByteArray)) : l.length + (l.map List.length).sum ≤ (l.map bulkT).sum := by
  induction l with
  | nil => simp
  | cons x l ih => simp only [List.length_cons, List.map_cons, List.sum_cons]; have := bulkT_len x; omega
theorem bulkT_in {l : List (List ByteArray)} {xs : List ByteArray} (h : xs ∈ l) : bulkT xs ≤ (l.map bulkT).sum := by
  induction l with
  | nil => cases h
  | cons x l ih =>
    simp only [List.map_cons, List.sum_cons]
    rcases List.mem_cons.1 h with h | h
    · subst h; omega
    · have := ih h; omega
theorem open41 {H : Type} (enc : TypeId × Value → H) (w : World) (base : Nat) (spare : Nat → Bool) (held : Bool) :
    Opens enc Try.prog w base spare held 41 (Kd.slice 48 (Kd.slice 9 Kd.string)) (fun l => (l.length * 24 ≤ reach ∧ l.length ≤ maxLen) ∧ ∀ xs ∈ l, (xs.length * 16 ≤ reach ∧ xs.length ≤ maxLen) ∧ ∀ x ∈ xs, x.size ≤ reach) (fun l => (l.map bulkT).sum) :=
  (of_slice Try.underlying41 (by kernel_rfl) (by kernel_rfl) (of_slice Try.underlying48 (by kernel_rfl) (by kernel_rfl) (of_string Try.underlying9))).imp (fun _ h => h) (fun l => by
    show (l.map bulkT).sum ≤ (l.map bulkT).sum + 1
    omega)
theorem Walks.MergeWords {w : World} (A0 : Option Addr) (c0 : Nat) (l0 : List (List ByteArray)) (hC0 : Kd.C (Kd.slice 9 Kd.string) w A0 l0.length l0) (hl0 : l0.length ≤ c0) (hg0 : (l0.length * 24 ≤ reach ∧ l0.length ≤ maxLen) ∧ ∀ xs ∈ l0, (xs.length * 16 ≤ reach ∧ xs.length ≤ maxLen) ∧ ∀ x ∈ xs, x.size ≤ reach)
    (hb : (l0.map bulkT).sum ≤ 1048576) :
    Calls Try.prog 5 #[.slice A0 l0.length c0] w fun e w' => e = .returned (.bool true) ∧ Below w.heap.size w w' := by
  obtain ⟨ls, rfl⟩ := MergeS.words_of l0 (fun xs hx s hs => by have h1 := bulkT_mem hs; have h2 := bulkT_in hx; omega)
  have h1 := bulkT_sum (ls.map (List.map MergeS.wv))
  have e1 : ((ls.map (List.map MergeS.wv)).map List.length) = ls.map List.length := by
    rw [List.map_map]; exact List.map_congr_left fun x _ => by simp
  rw [e1, List.length_map] at h1
  have h2 := MergeS.words_walk A0 c0 ls hC0 (by omega)
  rw [List.length_map]
  exact h2
end Go.Proofs.Ytojbfjfjhfnopaa
end

section
/- The row of MergeWords: for every input of bulk at most 1048576 the law answers true, and each argument reads as it did. Out of its walk (Walks.MergeWords). -/
namespace Go.Proofs.Ytojbfjfjhfnopaa.rowMergeWords
open Go.ChangeShapes Go.WideShapes Go.ChangeAt Go.RowKit Go.Proofs.Ytojbfjfjhfnopaa.Reading
open Go.ChangeMaps (open_string shut_string)
set_option linter.unusedVariables false
theorem own : ownKnob Try.prog.godebug = none := by kernel_rfl
theorem laidOut : laidOutB Try.prog = true := by kernel_rfl
set_option maxRecDepth 100000 in
theorem contract (H : Type) (enc : TypeId × Value → H) (W : World) (base : Nat) (args : Array Value) (ds gs : List (DataW H)) (before : List MemPlace)
    (hval0 : ∀ (j : Nat) t v, Try.f5.params[j]? = some t → args[j]? = some v → Value.okWide Try.prog W .any base t v)
    (hW : DataW.Whole enc Try.prog Try.f5.params.toList Rows.mergeWordsSpec.vars false W args.toList ds gs before) (hk0 : Rows.uptoSmall H (ds ++ gs) = true)
    (hsz0 : (DataW.weightsEach Try.prog (Try.f5.params.toList ++ Rows.mergeWordsSpec.plain.varTypes Try.prog) (ds ++ gs)).all (· ≤ reachBytes) = true) :
    Calls Try.prog 5 args W fun e W' => ∃ v, e = .returned v ∧ Rows.mergeWordsSpec.post enc Try.prog Try.f5 false true false false W args v W' := by
  have hval := hval0
  have hsz := hsz0
  have hW' := hW
  obtain ⟨p, q, hA0, hV, rfl, hfz, hnd⟩ := hW
  have hA : DataW.TrodAll enc Try.prog W 0 (fun _ => true) true Try.f5.params.toList args.toList ds p := hA0
  rw [Try.params5] at hA hval hsz
  obtain ⟨v0, vs0, d0, ds0, p0, q0, hargs, rfl, rfl, h0, r0⟩ := trodAll_cons hA
  obtain ⟨rfl, rfl, rfl⟩ := trodAll_nil r0
  obtain rfl : args = #[v0] := by cases args; simp_all
  obtain ⟨rfl, rfl⟩ := trodVars_none hV
  have hwt := weights_at hsz
  have hk : Rows.uptoBulkAll (d0 :: ([] : List (DataW H))) ≤ 1048576 := by
    have h := of_decide_eq_true hk0
    simpa using h
  have k0 := h0
  have lt0 : ∀ x ∈ p0, x.block < W.heap.size := by obtain ⟨m, hm⟩ := k0; exact DataW.trod_lt m _ _ _ hm
  have wt0 : ∀ n ∈ DataW.weights Try.prog 41 d0, n ≤ reach := fun n hn => hwt n (by simp only [List.cons_append, List.nil_append, List.append_nil, DataW.weightsEach, List.mem_append]; first | exact hn | exact (.inl hn) | exact hn)
  obtain ⟨A0, c0, l0, rfl, hl0, hC0, hg0, hb0⟩ := slice_top (okWide_slice' Try.underlying41 (hval 0 41 v0 rfl rfl)) (open41 enc W 0 (fun _ => true) true) h0 wt0
  simp only [Rows.uptoBulkAll] at hk
  clear hA0 hval0 hsz0 hsz
  refine (Walks.MergeWords A0 c0 l0 hC0 hl0 hg0 (by omega)).mono fun e W' ⟨he, bel⟩ => ?_
  subst he
  exact ⟨_, rfl, _, _, _, [], _, [], hW', trodAll_mk1 (shut_bool Try.underlying4 _), (trodAll_cons_mk (Below.trod laidOut (by kernel_rfl) (of_decide_eq_true (by kernel_rfl)) k0 bel lt0) trodAll_mk0), rfl, bel.frame _, fun h => by cases h⟩
set_option maxRecDepth 100000 in
theorem lifted (os : Os) (started : os.Started) (H : Type) (enc : TypeId × Value → H) (F : Stop.Interp) :
    ReturnsInHanded {} Try.checked os 5 .any ((Rows.OpenSpec.upto Rows.mergeWordsSpec).pre6 enc Try.prog Try.f5 Rows.mergeWordsUptoRow.domain false) (((Rows.OpenSpec.upto Rows.mergeWordsSpec).at F).post enc Try.prog Try.f5 false true false false) := by
  refine returnsInHanded_of_cond_sized (C := Try.checked) (s := (Rows.OpenSpec.upto Rows.mergeWordsSpec)) (k := Rows.uptoSmall) rfl own started (by kernel_rfl) Try.func5
    (OpenSpec.witness (enc := enc) (C := Try.checked) (s := (Rows.OpenSpec.upto Rows.mergeWordsSpec)) (k := Rows.uptoSmall) rfl false ⟨#[], #[.slice none 0 0], []⟩ 8 (by kernel_rfl) (by kernel_rfl) (by kernel_rfl) (x := ([.nil], [], [])) (by kernel_rfl) rfl (by kernel_rfl)) ?_
  intro W base args ds gs before hval hW _ hk hsz _
  exact contract H enc W base args ds gs before hval hW hk hsz
theorem over : Rows.mergeWordsUptoRow.holds Try.pinned (Rows.OpenSpec.upto Rows.mergeWordsSpec) :=
  OpenClaim.holds_of_cond 5 Try.f5 rfl rfl rfl rfl rfl rfl rfl ⟨rfl, rfl, rfl, rfl, rfl⟩ rfl rfl rfl rfl rfl (by kernel_rfl) Try.func5 (by kernel_rfl)
    (of_decide_eq_true (by kernel_rfl)) (by unfold Func.isWrapper; first | (rw [if_pos (by decide +kernel)]; kernel_rfl) | (rw [if_neg (by decide +kernel)]; exact ⟨rfl, rfl⟩))
    (fun os started H enc _ F => lifted os started H enc F)
end Go.Proofs.Ytojbfjfjhfnopaa.rowMergeWords
namespace Go.Proofs.Ytojbfjfjhfnopaa
/-- The row. -/
theorem mergeWords_holds : Rows.MergeWordsUptoSaid := rowMergeWords.over
#print axioms mergeWords_holds
end Go.Proofs.Ytojbfjfjhfnopaa
end
