/- The last of the claim's own texts, in one file: Gx8, RefMerge, RefEnt, WalkEntries, WalkGoes, RowMergeGoes. Conditions: each theorem's own. -/
import Derived.Test.YtojbfjfjhfnopaaZBase1
import Derived.Test.YtojbfjfjhfnopaaZGoes1
import Derived.Sort.CutIn
import Derived.Test.YtojbfjfjhfnopaaRows
import Derived.Test.YtojbfjfjhfnopaaZBase2
import Derived.WalkKit
import Derived.ProofKit
import Derived.OpenShut
import Derived.ShutString
import Derived.ChangeOld
import Derived.Below
import Derived.SizedLaws
import Derived.JoinedCond
import Derived.Deep.CondSized
section
-- Written by a program of this session (wip/gprint.py: the kit's print, with contracts proved by hand)
namespace Go.Proofs.Ytojbfjfjhfnopaa.G
open Go.RowKit Go.Proofs.YtojbfjfjhfnopaaW.PrintWords Go.Proofs.YtojbfjfjhfnopaaW.PrintLast Go.Proofs.YtojbfjfjhfnopaaW.PrintMore
attribute [local go_sem] max2_int min2_int max_two min_two max_three min_three max_four min_four   -- for this text's walks alone
set_option linter.unusedVariables false
set_option linter.unusedSimpArgs false

/-! ### inclineref13_Entries: function 12 -/
mutual
def inclineref13_Entries.l0 : Nat → List (List (S32)) → List (List Int) → Int → Option ((List (S32)))
  | 0, _, _, _ => none
  | k + 1, x0, x3, x4 => if x4 < (x0.length : Int) then (inclineref13_Entries.l1 k x0 x3 x4 (([] : List Int)) 0) else ((inclineref13_Merge.f k x3).bind fun t166 => (inclineref13_Entries.l2 k x0 t166 (([] : List (S32))) 0))
def inclineref13_Entries.l1 : Nat → List (List (S32)) → List (List Int) → Int → List Int → Int → Option ((List (S32)))
  | 0, _, _, _, _, _ => none
  | k + 1, x0, x3, x4, x5, x6 => if 0 ≤ x4 then (if x4 < (x0.length : Int) then (if x6 < ((rd_L3 x0 x4).length : Int) then (if 0 ≤ x6 then (if x5.length < 17592186044416 then (inclineref13_Entries.l1 k x0 x3 x4 (x5 ++ [(rd_T32 (rd_L3 x0 x4) x6).f0]) (wrap64 (x6 + 1))) else (none)) else (none)) else (if x3.length < 5864062014805 then (inclineref13_Entries.l0 k x0 (x3 ++ [x5]) (wrap64 (x4 + 1))) else (none))) else (none)) else (none)
def inclineref13_Entries.l2 : Nat → List (List (S32)) → List (S54) → List (S32) → Int → Option ((List (S32)))
  | 0, _, _, _, _ => none
  | k + 1, x0, x7, x8, x9 => if x9 < (x7.length : Int) then (if 0 ≤ x9 then (if 0 ≤ ((rd_T54 x7 x9).f0) then (if ((rd_T54 x7 x9).f0) < (x0.length : Int) then (if 0 ≤ ((rd_T54 x7 x9).f1) then (if ((rd_T54 x7 x9).f1) < ((rd_L3 x0 ((rd_T54 x7 x9).f0)).length : Int) then (if x8.length < 5864062014805 then (inclineref13_Entries.l2 k x0 x7 (x8 ++ [(⟨(rd_T32 (rd_L3 x0 ((rd_T54 x7 x9).f0)) ((rd_T54 x7 x9).f1)).f0, (rd_T32 (rd_L3 x0 ((rd_T54 x7 x9).f0)) ((rd_T54 x7 x9).f1)).f1, (rd_T32 (rd_L3 x0 ((rd_T54 x7 x9).f0)) ((rd_T54 x7 x9).f1)).f2⟩ : S32)]) (wrap64 (x9 + 1))) else (none)) else (none)) else (none)) else (none)) else (none)) else (none)) else (some x8)
end
def inclineref13_Entries.f (k : Nat) (l0 : List (List (S32))) : Option ((List (S32))) := inclineref13_Entries.l0 k l0 (([] : List (List Int))) 0
theorem inclineref13_Entries.mono_l : ∀ k, (∀ y0 y1 y2, LeO (inclineref13_Entries.l0 k y0 y1 y2) (inclineref13_Entries.l0 (k + 1) y0 y1 y2)) ∧ (∀ y0 y1 y2 y3 y4, LeO (inclineref13_Entries.l1 k y0 y1 y2 y3 y4) (inclineref13_Entries.l1 (k + 1) y0 y1 y2 y3 y4)) ∧ (∀ y0 y1 y2 y3, LeO (inclineref13_Entries.l2 k y0 y1 y2 y3) (inclineref13_Entries.l2 (k + 1) y0 y1 y2 y3))
  | 0 => ⟨fun _ _ _ r h => by simp [inclineref13_Entries.l0] at h, fun _ _ _ _ _ r h => by simp [inclineref13_Entries.l1] at h, fun _ _ _ _ r h => by simp [inclineref13_Entries.l2] at h⟩
  | k + 1 => by
    obtain ⟨ih0, ih1, ih2⟩ := inclineref13_Entries.mono_l k
    refine ⟨?_, ?_, ?_⟩
    · intro y0 y1 y2
      unfold inclineref13_Entries.l0
      repeat' first
      | (with_reducible exact ih0 _ _ _)
      | (with_reducible exact ih1 _ _ _ _ _)
      | (with_reducible exact ih2 _ _ _ _)
      | (with_reducible exact inclineref13_Merge.mono _ _)
      | (with_reducible exact LeO.refl _)
      | (with_reducible exact LeO.none _)
      | (with_reducible refine LeO.ite ?_ ?_)
      | (with_reducible refine LeO.bind ?_ (fun _ => ?_))
      | exact ih0 _ _ _
      | exact ih1 _ _ _ _ _
      | exact ih2 _ _ _ _
      | exact inclineref13_Merge.mono _ _
      | exact LeO.none _
      | refine LeO.ite ?_ ?_
      | refine LeO.bind ?_ (fun _ => ?_)
    · intro y0 y1 y2 y3 y4
      unfold inclineref13_Entries.l1
      repeat' first
      | (with_reducible exact ih0 _ _ _)
      | (with_reducible exact ih1 _ _ _ _ _)
      | (with_reducible exact ih2 _ _ _ _)
      | (with_reducible exact inclineref13_Merge.mono _ _)
      | (with_reducible exact LeO.refl _)
      | (with_reducible exact LeO.none _)
      | (with_reducible refine LeO.ite ?_ ?_)
      | (with_reducible refine LeO.bind ?_ (fun _ => ?_))
      | exact ih0 _ _ _
      | exact ih1 _ _ _ _ _
      | exact ih2 _ _ _ _
      | exact inclineref13_Merge.mono _ _
      | exact LeO.none _
      | refine LeO.ite ?_ ?_
      | refine LeO.bind ?_ (fun _ => ?_)
    · intro y0 y1 y2 y3
      unfold inclineref13_Entries.l2
      repeat' first
      | (with_reducible exact ih0 _ _ _)
      | (with_reducible exact ih1 _ _ _ _ _)
      | (with_reducible exact ih2 _ _ _ _)
      | (with_reducible exact inclineref13_Merge.mono _ _)
      | (with_reducible exact LeO.refl _)
      | (with_reducible exact LeO.none _)
      | (with_reducible refine LeO.ite ?_ ?_)
      | (with_reducible refine LeO.bind ?_ (fun _ => ?_))
      | exact ih0 _ _ _
      | exact ih1 _ _ _ _ _
      | exact ih2 _ _ _ _
      | exact inclineref13_Merge.mono _ _
      | exact LeO.none _
      | refine LeO.ite ?_ ?_
      | refine LeO.bind ?_ (fun _ => ?_)
theorem inclineref13_Entries.mono : ∀ a0 k, LeO (inclineref13_Entries.f k a0) (inclineref13_Entries.f (k + 1) a0) := by
  intro a0 k
  obtain ⟨ih0, ih1, ih2⟩ := inclineref13_Entries.mono_l k
  unfold inclineref13_Entries.f
  repeat' first
      | (with_reducible exact ih0 _ _ _)
      | (with_reducible exact ih1 _ _ _ _ _)
      | (with_reducible exact ih2 _ _ _ _)
      | (with_reducible exact inclineref13_Merge.mono _ _)
      | (with_reducible exact LeO.refl _)
      | (with_reducible exact LeO.none _)
      | (with_reducible refine LeO.ite ?_ ?_)
      | (with_reducible refine LeO.bind ?_ (fun _ => ?_))
      | exact ih0 _ _ _
      | exact ih1 _ _ _ _ _
      | exact ih2 _ _ _ _
      | exact inclineref13_Merge.mono _ _
      | exact LeO.none _
      | refine LeO.ite ?_ ?_
      | refine LeO.bind ?_ (fun _ => ?_)
def inclineref13_Entries.T16 : Bool × List (List Nat × List Nat) := (true, [([], []), ([], []), ([], []), ([], []), ([2, 3], [2, 3]), ([4], [4]), ([5], [5]), ([1, 6], [1, 6]), ([7], [7]), ([], []), ([], []), ([9, 10], [9, 10]), ([11], [11]), ([12], [12]), ([8, 13], [8, 13]), ([14], [14]), ([15], [15]), ([0, 16], [0, 16]), ([17, 17, 0, 1, 2, 3, 4, 5, 6, 7, 8, 9, 10, 11, 12, 13, 14, 15, 16, 17], [0, 17])])
def inclineref13_Entries.B16 : List Nat := [0, 0, 0, 0, 12, 28, 60, 126, 254, 0, 0, 1536, 3584, 7680, 16382, 32766, 65534, 131071, 262143]
theorem inclineref13_Entries.tab16 : rtab .any (opsOf Try.f12 16) = inclineref13_Entries.T16 := by kernel_rfl
theorem inclineref13_Entries.bits16 : waitsOk inclineref13_Entries.T16.2 inclineref13_Entries.B16 = true := by kernel_rfl
set_option maxHeartbeats 8000000 in
set_option maxRecDepth 100000 in
theorem inclineref13_Entries.calls (k : Nat) (A0 : Option Addr) (c0 : Nat) (l0 : List (List (S32))) (r : List (S32)) (w : World) (hr0 : Kd.C (Kd.slice 32 k32) w A0 l0.length l0) (hc0 : l0.length ≤ c0) (h : inclineref13_Entries.f k l0 = some r) :
    Calls Try.prog 12 #[.slice A0 l0.length c0] w fun e w' => ∃ v0_ : Value, e = .returned (v0_) ∧ Kd.R k32 32 w' w.heap.size (fun _ => True) v0_ r ∧ Below w.heap.size w w' := by
  have hu32 := Try.underlying32
  have HR0 := Aside0.mk hr0
  have HC0 := Aside0.mk hc0
  clear hr0 hc0
  have HB := Aside0.mk (Below.refl w.heap.size w)
  have H : (inclineref13_Entries.l0 k l0 (([] : List (List Int))) 0) = some r := h
  clear h
  obtain ⟨y151, hy151⟩ : ∃ y_ : List (List Int), y_ = (([] : List (List Int))) := ⟨_, rfl⟩
  replace H : (inclineref13_Entries.l0 k l0 y151 0) = some r := by first | (rw [hy151]; with_reducible exact H) | (have H2_ := (Option.bind_some _ _).symm.trans H; rw [hy151]; with_reducible exact H2_) | (have H2_ := (Option.bind_some _ _).symm.trans H; with_reducible exact H2_) | with_reducible exact H | (rw [hy151]; exact H) | exact H
  have Ny151 := Aside0.mk hy151
  clear hy151
  have H' := Aside0.mk H
  clear H
  go_enter Try.func12, Try.ntmps12
  go_wp2_with (first | ((with_reducible refine gate_dst (N := 10) rfl ?_); refine Kd.S_lit (Kd.slice 30 (Kd.int .u64)) _ 49 ?hg (N := 10) ?hd (xs := ([] : List (List Int))) (inner := []) (ok := fun _ => True) (okp := fun _ => True) ?hr ?hp (fun _ hk => hk) trivial (Below.refl _ _) (Nat.le_refl _) (by simp) ?_; (case hd => rfl); (case hg => rfl); (case hr => first | (go_simp; done) | (go_simp; rfl)); (case hp => exact (Reps.none _ _)); intro v152 w2 ho3 hb hg_ hnew_; clear hg_ hnew_; (first | rw [← Ny151.out] at ho3 | (simp only [Int.reduceToNat] at ho3; rw [← Ny151.out] at ho3)); have n0_ := Aside0.mk (Kd.S_lower ho3 (below_size (by repeat (first | (with_reducible first | exact HB.out | apply below_alloc | apply pw_below_drewN | apply below_drew1) | exact HB.out)))); have n1_ := Aside0.mk (below_step (by repeat (first | (with_reducible first | exact HB.out | apply below_alloc | apply pw_below_drewN | apply below_drew1) | exact HB.out)) hb); clear HB; have HO153 := n0_; have HB := n1_; clear n0_ n1_; clear hb ho3))
  go_loopg [3, 4] k (fun kq v3 v4 w' => ∃ (x3_1 : List (List Int)) (x4_1 : Int), v4 = .int .i64 x4_1 ∧ Aside0 (inclineref13_Entries.l0 kq l0 x3_1 x4_1 = some r) ∧ Aside0 (kq ≤ k) ∧ Aside0 (Kd.S (Kd.slice 30 (Kd.int .u64)) 49 w' w.heap.size (fun _ => True) v3 x3_1) ∧ Aside0 (Below w.heap.size w w'))
  case atStart => exact ⟨(y151), (0), (by first | rfl | (simp; done) | (simp [*]; done)), H', ⟨Nat.le_refl _⟩, ⟨by (with_reducible repeat (first | apply Kd.S_alloc | apply Kd.S_drewN | apply Kd.S_drew)); exact HO153.out⟩, ⟨by repeat (first | (with_reducible first | exact HB.out | apply below_alloc | apply pw_below_drewN | apply below_drew1) | exact HB.out)⟩⟩
  case round =>
    clear H'
    try clear c1
    try clear p2
    obtain ⟨x3_1, x4_1, rfl, HA, HK1, HO_3, HB⟩ := hrel
    cases gk with
    | zero => exact absurd HA.out (by simp [inclineref13_Entries.l0])
    | succ k1 =>
      have H := HA.out
      clear HA
      simp only [inclineref13_Entries.l0] at H
      by_cases c4 : x4_1 < (l0.length : Int)
      · rw [if_pos c4] at H
        have c4b0 : decide (x4_1 < (l0.length : Int)) = true := decide_eq_true c4
        clear c4
        obtain ⟨y154, hy154⟩ : ∃ y_ : List Int, y_ = (([] : List Int)) := ⟨_, rfl⟩
        replace H : (inclineref13_Entries.l1 k1 l0 x3_1 x4_1 y154 0) = some r := by first | (rw [hy154]; with_reducible exact H) | (have H2_ := (Option.bind_some _ _).symm.trans H; rw [hy154]; with_reducible exact H2_) | (have H2_ := (Option.bind_some _ _).symm.trans H; with_reducible exact H2_) | with_reducible exact H | (rw [hy154]; exact H) | exact H
        have Ny154 := Aside0.mk hy154
        clear hy154
        have H' := Aside0.mk H
        clear H
        go_wp2_with (first | ((with_reducible refine gate_dst (N := 17) rfl ?_); refine Kd.R_lit (Kd.int .u64) _ 30 ?hg (N := 17) ?hd (xs := ([] : List Int)) (inner := []) (ok := fun _ => True) (okp := fun _ => True) ?hr ?hp (fun _ hk => hk) trivial (Below.refl _ _) (Nat.le_refl _) (by simp) ?_; (case hd => rfl); (case hg => rfl); (case hr => first | (go_simp; done) | (go_simp; rfl)); (case hp => exact (Reps.none _ _)); intro v155 w5 ho6 hb hg_ hnew_; clear hg_ hnew_; (first | rw [← Ny154.out] at ho6 | (simp only [Int.reduceToNat] at ho6; rw [← Ny154.out] at ho6)); have n0_ := Aside0.mk (Kd.S_elder' (by (with_reducible repeat (first | apply Kd.S_alloc | apply Kd.S_drewN | apply Kd.S_drew)); exact HO_3.out) (Kd.R_base ho6) hb); have n1_ := Aside0.mk (Kd.R_lower ho6 (below_size (by repeat (first | (with_reducible first | exact HB.out | apply below_alloc | apply pw_below_drewN | apply below_drew1) | exact HB.out)))); have n2_ := Aside0.mk (below_step (by repeat (first | (with_reducible first | exact HB.out | apply below_alloc | apply pw_below_drewN | apply below_drew1) | exact HB.out)) hb); clear HO_3; clear HB; have HO_3 := n0_; have HO156 := n1_; have HB := n2_; clear n0_ n1_ n2_; clear hb ho6))
        go_loopg [5, 6] k1 (fun kq v5 v6 w' => ∃ (x5_2 : List Int) (x6_2 : Int), v6 = .int .i64 x6_2 ∧ Aside0 (inclineref13_Entries.l1 kq l0 x3_1 x4_1 x5_2 x6_2 = some r) ∧ Aside0 (kq ≤ k1) ∧ Aside0 (Kd.S (Kd.slice 30 (Kd.int .u64)) 49 w' w.heap.size (fun k_ => some k_ ≠ (v5 : Value).ownBlock) u3 x3_1) ∧ Aside0 (Kd.R (Kd.int .u64) 30 w' w.heap.size (fun _ => True) v5 x5_2) ∧ Aside0 (Below w.heap.size w w'))
        case atStart => exact ⟨(y154), (0), (by first | rfl | (simp; done) | (simp [*]; done)), H', ⟨Nat.le_refl _⟩, ⟨by (with_reducible repeat (first | apply Kd.S_alloc | apply Kd.S_drewN | apply Kd.S_drew)); exact Kd.S_mono HO_3.out (fun _ hk => hk.2)⟩, ⟨by (with_reducible repeat (first | apply Kd.R_alloc | apply Kd.R_drewN | apply Kd.R_drew)); exact HO156.out⟩, ⟨by repeat (first | (with_reducible first | exact HB.out | apply below_alloc | apply pw_below_drewN | apply below_drew1) | exact HB.out)⟩⟩
        case round =>
          clear H'
          try clear c1
          try clear p2
          try clear c4
          try clear c4b0
          try clear p2
          obtain ⟨x5_2, x6_2, rfl, HA, HK2, HO_3, HO_5, HB⟩ := hrel
          cases gk with
          | zero => exact absurd HA.out (by simp [inclineref13_Entries.l1])
          | succ k2 =>
            have H := HA.out
            clear HA
            simp only [inclineref13_Entries.l1] at H
            by_cases c7 : 0 ≤ x4_1
            · rw [if_pos c7] at H
              have c7b0 : decide (0 ≤ x4_1) = true := decide_eq_true c7
              clear c7
              by_cases c8 : x4_1 < (l0.length : Int)
              · rw [if_pos c8] at H
                have c8b0 : decide (x4_1 < (l0.length : Int)) = true := decide_eq_true c8
                clear c8
                by_cases c9 : x6_2 < ((rd_L3 l0 x4_1).length : Int)
                · rw [if_pos c9] at H
                  have c9b0 : decide (x6_2 < ((rd_L3 l0 x4_1).length : Int)) = true := decide_eq_true c9
                  clear c9
                  by_cases c10 : 0 ≤ x6_2
                  · rw [if_pos c10] at H
                    have c10b0 : decide (0 ≤ x6_2) = true := decide_eq_true c10
                    clear c10
                    by_cases c11 : x5_2.length < 17592186044416
                    · rw [if_pos c11] at H
                      have LMc11 := Aside0.mk c11
                      clear c11
                      obtain ⟨y160, hy160⟩ : ∃ y_ : List Int, y_ = (x5_2 ++ [(rd_T32 (rd_L3 l0 x4_1) x6_2).f0]) := ⟨_, rfl⟩
                      replace H : (inclineref13_Entries.l1 k2 l0 x3_1 x4_1 y160 (wrap64 (x6_2 + 1))) = some r := by first | (rw [hy160]; with_reducible exact H) | (have H2_ := (Option.bind_some _ _).symm.trans H; rw [hy160]; with_reducible exact H2_) | (have H2_ := (Option.bind_some _ _).symm.trans H; with_reducible exact H2_) | with_reducible exact H | (rw [hy160]; exact H) | exact H
                      have Ny160 := Aside0.mk hy160
                      clear hy160
                      have H' := Aside0.mk H
                      clear H
                      have p157 : 0 ≤ (x4_1 : Int) := of_decide_eq_true (by first | (with_reducible assumption) | assumption)
                      have q157 : x4_1 < (l0.length : Int) := of_decide_eq_true (by first | (with_reducible assumption) | assumption)
                      obtain ⟨ad157, A157_0, c157_0, e157, hx157_0, hl157_0, hi157_0⟩ := at_L3 HR0.out x4_1 p157 q157
                      cases e157
                      replace hx157_0 := (HB.out.cell (World.block_lt_of_cell? w _ hx157_0)).trans hx157_0
                      have HR157_0 := Aside0.mk hi157_0
                      have HC157_0 := Aside0.mk hl157_0
                      clear hi157_0 hl157_0
                      replace p157 := eq_true p157
                      replace q157 := eq_true q157
                      have p158 : 0 ≤ (x4_1 : Int) := of_decide_eq_true (by first | (with_reducible assumption) | assumption)
                      have q158 : x4_1 < (l0.length : Int) := of_decide_eq_true (by first | (with_reducible assumption) | assumption)
                      obtain ⟨ad158, A158_0, c158_0, e158, hx158_0, hl158_0, hi158_0⟩ := at_L3 HR0.out x4_1 p158 q158
                      obtain rfl : ad157 = ad158 := (by injection e158)
                      replace hx158_0 := (HB.out.cell (World.block_lt_of_cell? w _ hx158_0)).trans hx158_0
                      have HR158_0 := Aside0.mk hi158_0
                      have HC158_0 := Aside0.mk hl158_0
                      clear hi158_0 hl158_0
                      replace p158 := eq_true p158
                      replace q158 := eq_true q158
                      have ea_ := Option.some.inj (hx157_0.symm.trans hx158_0)
                      injection ea_ with ea_ en_ ec_
                      subst ea_
                      subst ec_
                      clear en_
                      have p159 : 0 ≤ (x6_2 : Int) := of_decide_eq_true (by first | (with_reducible assumption) | assumption)
                      have q159 : x6_2 < ((rd_L3 l0 x4_1).length : Int) := of_decide_eq_true (by first | (with_reducible assumption) | assumption)
                      obtain ⟨ad159, e159, hx159_0, hx159_1, hx159_2⟩ := at_T32 HR158_0.out x6_2 p159 q159
                      cases e159
                      replace hx159_0 := (HB.out.cell (World.block_lt_of_cell? w _ hx159_0)).trans hx159_0
                      replace hx159_1 := (HB.out.cell (World.block_lt_of_cell? w _ hx159_1)).trans hx159_1
                      replace hx159_2 := (HB.out.cell (World.block_lt_of_cell? w _ hx159_2)).trans hx159_2
                      replace p159 := eq_true p159
                      replace q159 := eq_true q159
                      go_wp2_with (first | ((with_reducible refine gate_builtin (b := .append) (xs := #[.tmp 27, .tmp 36]) rfl ?_); at_builtin; refine Kd.R_append (Kd.int .u64) (w0 := w) w.heap.size rfl (.tmp 27) (.tmp 36) 49 30 (.int .u64 0) 8 rfl Try.underlying49 info30 rfl (by decide) (by omega) u5 x5_2 ((rd_T32 (rd_L3 l0 x4_1) x6_2).f0) [.int .u64 ((rd_T32 (rd_L3 l0 x4_1) x6_2).f0)] (fun _ => True) (fun _ => False) rfl rfl ?aP (fun _ hk => hk.elim) ?aF ?aO ?aB ?aS ?aL ?_; (case aP => exact rfl); (case aB => exact (by repeat (first | (with_reducible first | exact HB.out | apply below_alloc | apply pw_below_drewN | apply below_drew1) | exact HB.out))); (case aF => exact (fun _ _ => trivial)); (case aO => exact (by (with_reducible repeat (first | apply Kd.R_alloc | apply Kd.R_drewN | apply Kd.R_drew)); exact HO_5.out)); (case aS => exact (below_size (by repeat (first | (with_reducible first | exact HB.out | apply below_alloc | apply pw_below_drewN | apply below_drew1) | exact HB.out)))); (case aL => have := LMc11.out; omega); intro v161 w12 ho hb hg hat; rw [← Ny160.out] at ho; have n0_ := Aside0.mk (Kd.S_after (ok := (fun _ => True)) (by (with_reducible repeat (first | apply Kd.S_alloc | apply Kd.S_drewN | apply Kd.S_drew)); exact Kd.S_mono HO_3.out (fun _ hk => ⟨trivial, hk⟩)) hg hat); have n1_ := Aside0.mk (hb); have n2_ := Aside0.mk (ho); clear HO_3; clear HB; clear HO_5; have HO_3 := n0_; have HB := n1_; have HO162 := n2_; clear n0_ n1_ n2_; clear ho hb hg hat))
                      go_roundg k2
                      case measure => have := HK1.out; have := HK2.out; omega
                      case rel => exact ⟨(y160), (wrap64 (x6_2 + 1)), (by first | rfl | (simp; done) | (simp [*]; done)), H', ⟨by have := HK1.out; have := HK2.out; omega⟩, ⟨by (with_reducible repeat (first | apply Kd.S_alloc | apply Kd.S_drewN | apply Kd.S_drew)); exact Kd.S_mono HO_3.out (fun _ hk => hk.2)⟩, ⟨by (with_reducible repeat (first | apply Kd.R_alloc | apply Kd.R_drewN | apply Kd.R_drew)); exact HO162.out⟩, ⟨by repeat (first | (with_reducible first | exact HB.out | apply below_alloc | apply pw_below_drewN | apply below_drew1) | exact HB.out)⟩⟩
                    · rw [if_neg c11] at H
                      exact absurd H (by simp)
                  · rw [if_neg c10] at H
                    exact absurd H (by simp)
                · rw [if_neg c9] at H
                  have c9b0 : decide (x6_2 < ((rd_L3 l0 x4_1).length : Int)) = false := decide_eq_false c9
                  clear c9
                  by_cases c13 : x3_1.length < 5864062014805
                  · rw [if_pos c13] at H
                    have LMc13 := Aside0.mk c13
                    clear c13
                    obtain ⟨y163, hy163⟩ : ∃ y_ : List (List Int), y_ = (x3_1 ++ [x5_2]) := ⟨_, rfl⟩
                    replace H : (inclineref13_Entries.l0 k2 l0 y163 (wrap64 (x4_1 + 1))) = some r := by first | (rw [hy163]; with_reducible exact H) | (have H2_ := (Option.bind_some _ _).symm.trans H; rw [hy163]; with_reducible exact H2_) | (have H2_ := (Option.bind_some _ _).symm.trans H; with_reducible exact H2_) | with_reducible exact H | (rw [hy163]; exact H) | exact H
                    have Ny163 := Aside0.mk hy163
                    clear hy163
                    have H' := Aside0.mk H
                    clear H
                    have p157 : 0 ≤ (x4_1 : Int) := of_decide_eq_true (by first | (with_reducible assumption) | assumption)
                    have q157 : x4_1 < (l0.length : Int) := of_decide_eq_true (by first | (with_reducible assumption) | assumption)
                    obtain ⟨ad157, A157_0, c157_0, e157, hx157_0, hl157_0, hi157_0⟩ := at_L3 HR0.out x4_1 p157 q157
                    cases e157
                    replace hx157_0 := (HB.out.cell (World.block_lt_of_cell? w _ hx157_0)).trans hx157_0
                    have HR157_0 := Aside0.mk hi157_0
                    have HC157_0 := Aside0.mk hl157_0
                    clear hi157_0 hl157_0
                    replace p157 := eq_true p157
                    replace q157 := eq_true q157
                    obtain ⟨Ao15, co15, eo15⟩ := Kd.R_slice HO_5.out
                    subst eo15
                    go_wp2_with (first | ((with_reducible refine gate_builtin (b := .append) (xs := #[.tmp 38, .tmp 40]) rfl ?_); at_builtin; refine Kd.S_append (Kd.slice 30 (Kd.int .u64)) (w0 := w) w.heap.size rfl (.tmp 38) (.tmp 40) 44 49 (.slice none 0 0) 24 rfl Try.underlying44 info49 rfl (by decide) (by omega) u3 x3_1 x5_2 [.slice Ao15 x5_2.length co15] (fun _ => True) (fun k_ => some k_ = (.slice Ao15 x5_2.length co15 : Value).ownBlock) rfl rfl ?aP (fun k_ hk_ => ((Kd.R_mono (ok' := fun k_ => ((fun _ => True)) k_ ∧ some k_ ≠ (u3 : Value).ownBlock) (Kd.R_apart' (HO_5.out) (Kd.S_typed HO_3.out) (by decide)) (fun k_ hk => ⟨trivial, hk.2⟩))).1 k_ hk_.symm) ?aF ?aO ?aB ?aS ?aL ?_; (case aP => exact Kd.M_row (Kd.R_mono (Kd.R_tight rfl (Kd.R_mono (ok' := fun k_ => ((fun _ => True)) k_ ∧ some k_ ≠ (u3 : Value).ownBlock) (Kd.R_apart' (HO_5.out) (Kd.S_typed HO_3.out) (by decide)) (fun k_ hk => ⟨trivial, hk.2⟩))) (fun _ h_ => h_))); (case aB => exact (by repeat (first | (with_reducible first | exact HB.out | apply below_alloc | apply pw_below_drewN | apply below_drew1) | exact HB.out))); (case aF => exact (fun _ _ => trivial)); (case aO => exact (by (with_reducible repeat (first | apply Kd.S_alloc | apply Kd.S_drewN | apply Kd.S_drew)); exact Kd.S_mono HO_3.out (fun k_ hk => ⟨trivial, fun e_ => hk e_⟩))); (case aS => exact (below_size (by repeat (first | (with_reducible first | exact HB.out | apply below_alloc | apply pw_below_drewN | apply below_drew1) | exact HB.out)))); (case aL => have := LMc13.out; omega); intro v164 w14 ho hb hg hat; rw [← Ny163.out] at ho; have n0_ := Aside0.mk (hb); have n1_ := Aside0.mk (ho); clear HB; clear HO_3; clear HO_5; have HB := n0_; have HO165 := n1_; clear n0_ n1_; clear ho hb hg hat))
                    go_roundg k2
                    case measure => have := HK1.out; have := HK2.out; omega
                    case rel => exact ⟨(y163), (wrap64 (x4_1 + 1)), (by first | rfl | (simp; done) | (simp [*]; done)), H', ⟨by have := HK1.out; have := HK2.out; omega⟩, ⟨by (with_reducible repeat (first | apply Kd.S_alloc | apply Kd.S_drewN | apply Kd.S_drew)); exact HO165.out⟩, ⟨by repeat (first | (with_reducible first | exact HB.out | apply below_alloc | apply pw_below_drewN | apply below_drew1) | exact HB.out)⟩⟩
                  · rw [if_neg c13] at H
                    exact absurd H (by simp)
              · rw [if_neg c8] at H
                exact absurd H (by simp)
            · rw [if_neg c7] at H
              exact absurd H (by simp)
      · rw [if_neg c4] at H
        have c4b0 : decide (x4_1 < (l0.length : Int)) = false := decide_eq_false c4
        clear c4
        replace H := Option.bind_eq_some_iff.mp H
        obtain ⟨t166, A160, H⟩ := H
        replace H : (inclineref13_Entries.l2 k1 l0 t166 (([] : List (S32))) 0) = some r := H
        have A16 := Aside0.mk A160
        clear A160
        obtain ⟨y169, hy169⟩ : ∃ y_ : List (S32), y_ = (([] : List (S32))) := ⟨_, rfl⟩
        replace H : (inclineref13_Entries.l2 k1 l0 t166 y169 0) = some r := by first | (rw [hy169]; with_reducible exact H) | (have H2_ := (Option.bind_some _ _).symm.trans H; rw [hy169]; with_reducible exact H2_) | (have H2_ := (Option.bind_some _ _).symm.trans H; with_reducible exact H2_) | with_reducible exact H | (rw [hy169]; exact H) | exact H
        have Ny169 := Aside0.mk hy169
        clear hy169
        have H' := Aside0.mk H
        clear H
        obtain ⟨Ao17, co17, eo17⟩ := Kd.S_slice HO_3.out
        subst eo17
        go_wp2_with (first | ((with_reducible refine gate_callee (f := 21) rfl ?_); refine goesL_ (some 43) rfl rfl Try.func21 (by kernel_rfl) rfl #[.slice Ao17 x3_1.length co17] rfl (by (try simp only [List.map_toArray, List.map_cons, List.map_nil]); first | done | rfl | (simp only [List.length_drop, List.length_take]; rfl)) ?_; (with_reducible refine (inclineref13_Merge.calls k1 _ _ x3_1 t166 _ ?side1 ?side2 A16.out).mono ?_); (case side1 => repeat (first | exact (Kd.S_reads' HO_3.out).2.2 | (with_reducible refine Kd.C_alloc ?_ _) | (with_reducible refine Kd.C_drewN ?_ _) | (with_reducible refine Kd.C_drew ?_))); (case side2 => exact (Kd.S_reads' HO_3.out).2.1); rintro e w18 ⟨v167, rfl, ho0, hb⟩; refine ⟨_, rfl, ?_⟩; have n0_ := Aside0.mk (Kd.S_below (by (with_reducible repeat (first | apply Kd.S_alloc | apply Kd.S_drewN | apply Kd.S_drew)); exact HO_3.out) hb); have n1_ := Aside0.mk (Kd.R_lower ho0 (below_size (by repeat (first | (with_reducible first | exact HB.out | apply below_alloc | apply pw_below_drewN | apply below_drew1) | exact HB.out)))); have n2_ := Aside0.mk (below_step (by repeat (first | (with_reducible first | exact HB.out | apply below_alloc | apply pw_below_drewN | apply below_drew1) | exact HB.out)) hb); clear HO_3; clear HB; have HO_3 := n0_; have HO168 := n1_; have HB := n2_; clear n0_ n1_ n2_; (try clear hb); (try clear hb2); (try clear hk); (try clear hi); (try clear ho0)) | ((with_reducible refine gate_dst (N := 44) rfl ?_); refine Kd.R_lit k32 _ 32 ?hg (N := 44) ?hd (xs := ([] : List (S32))) (inner := []) (ok := fun _ => True) (okp := fun _ => True) ?hr ?hp (fun _ hk => hk) trivial (Below.refl _ _) (Nat.le_refl _) (by simp) ?_; (case hd => rfl); (case hg => rfl); (case hr => first | (go_simp; done) | (go_simp; rfl)); (case hp => exact (Reps.none _ _)); intro v170 w19 ho20 hb hg_ hnew_; clear hg_ hnew_; (first | rw [← Ny169.out] at ho20 | (simp only [Int.reduceToNat] at ho20; rw [← Ny169.out] at ho20)); have n0_ := Aside0.mk (Kd.S_below (by (with_reducible repeat (first | apply Kd.S_alloc | apply Kd.S_drewN | apply Kd.S_drew)); exact HO_3.out) hb); have n1_ := Aside0.mk (Kd.R_below (by (with_reducible repeat (first | apply Kd.R_alloc | apply Kd.R_drewN | apply Kd.R_drew)); exact HO168.out) hb); have n2_ := Aside0.mk (Kd.R_lower ho20 (below_size (by repeat (first | (with_reducible first | exact HB.out | apply below_alloc | apply pw_below_drewN | apply below_drew1) | exact HB.out)))); have n3_ := Aside0.mk (below_step (by repeat (first | (with_reducible first | exact HB.out | apply below_alloc | apply pw_below_drewN | apply below_drew1) | exact HB.out)) hb); clear HO_3; clear HO168; clear HB; have HO_3 := n0_; have HO168 := n1_; have HO171 := n2_; have HB := n3_; clear n0_ n1_ n2_ n3_; clear hb ho20))
        go_loopg [8, 9] k1 (fun kq v8 v9 w' => ∃ (x8_2 : List (S32)) (x9_2 : Int), v9 = .int .i64 x9_2 ∧ Aside0 (inclineref13_Entries.l2 kq l0 t166 x8_2 x9_2 = some r) ∧ Aside0 (kq ≤ k1) ∧ Aside0 (Kd.R k54 54 w' w.heap.size (fun _ => True) v167 t166) ∧ Aside0 (Kd.R k32 32 w' w.heap.size (fun _ => True) v8 x8_2) ∧ Aside0 (Below w.heap.size w w'))
        case atStart => exact ⟨(y169), (0), (by first | rfl | (simp; done) | (simp [*]; done)), H', ⟨Nat.le_refl _⟩, ⟨by (with_reducible repeat (first | apply Kd.R_alloc | apply Kd.R_drewN | apply Kd.R_drew)); exact HO168.out⟩, ⟨by (with_reducible repeat (first | apply Kd.R_alloc | apply Kd.R_drewN | apply Kd.R_drew)); exact HO171.out⟩, ⟨by repeat (first | (with_reducible first | exact HB.out | apply below_alloc | apply pw_below_drewN | apply below_drew1) | exact HB.out)⟩⟩
        case round =>
          clear H'
          try clear c1
          try clear p1
          try clear q1
          try clear hx1
          try clear c2
          try clear p2
          try clear c4
          try clear c4b0
          try clear p6
          try clear c7
          try clear c7b0
          try clear c8
          try clear c8b0
          try clear c9
          try clear c9b0
          try clear c10
          try clear c10b0
          try clear c11
          try clear c12
          try clear c13
          try clear c15
          try clear p15
          try clear q15
          try clear hx15
          try clear hx157_0
          try clear hx158_0
          try clear hx159_0
          try clear hx159_1
          try clear hx159_2
          try clear p157
          try clear p158
          try clear p159
          try clear p2
          try clear q157
          try clear q158
          try clear q159
          obtain ⟨x8_2, x9_2, rfl, HA, HK2, HO_7, HO_8, HB⟩ := hrel
          cases gk with
          | zero => exact absurd HA.out (by simp [inclineref13_Entries.l2])
          | succ k2 =>
            have H := HA.out
            clear HA
            simp only [inclineref13_Entries.l2] at H
            by_cases c21 : x9_2 < (t166.length : Int)
            · rw [if_pos c21] at H
              have c21b0 : decide (x9_2 < (t166.length : Int)) = true := decide_eq_true c21
              clear c21
              by_cases c22 : 0 ≤ x9_2
              · rw [if_pos c22] at H
                have c22b0 : decide (0 ≤ x9_2) = true := decide_eq_true c22
                clear c22
                by_cases c23 : 0 ≤ ((rd_T54 t166 x9_2).f0)
                · rw [if_pos c23] at H
                  have c23b0 : decide (0 ≤ ((rd_T54 t166 x9_2).f0)) = true := decide_eq_true c23
                  clear c23
                  by_cases c24 : ((rd_T54 t166 x9_2).f0) < (l0.length : Int)
                  · rw [if_pos c24] at H
                    have c24b0 : decide (((rd_T54 t166 x9_2).f0) < (l0.length : Int)) = true := decide_eq_true c24
                    clear c24
                    by_cases c25 : 0 ≤ ((rd_T54 t166 x9_2).f1)
                    · rw [if_pos c25] at H
                      have c25b0 : decide (0 ≤ ((rd_T54 t166 x9_2).f1)) = true := decide_eq_true c25
                      clear c25
                      by_cases c26 : ((rd_T54 t166 x9_2).f1) < ((rd_L3 l0 ((rd_T54 t166 x9_2).f0)).length : Int)
                      · rw [if_pos c26] at H
                        have c26b0 : decide (((rd_T54 t166 x9_2).f1) < ((rd_L3 l0 ((rd_T54 t166 x9_2).f0)).length : Int)) = true := decide_eq_true c26
                        clear c26
                        by_cases c27 : x8_2.length < 5864062014805
                        · rw [if_pos c27] at H
                          have LMc27 := Aside0.mk c27
                          clear c27
                          obtain ⟨y176, hy176⟩ : ∃ y_ : List (S32), y_ = (x8_2 ++ [(⟨(rd_T32 (rd_L3 l0 ((rd_T54 t166 x9_2).f0)) ((rd_T54 t166 x9_2).f1)).f0, (rd_T32 (rd_L3 l0 ((rd_T54 t166 x9_2).f0)) ((rd_T54 t166 x9_2).f1)).f1, (rd_T32 (rd_L3 l0 ((rd_T54 t166 x9_2).f0)) ((rd_T54 t166 x9_2).f1)).f2⟩ : S32)]) := ⟨_, rfl⟩
                          replace H : (inclineref13_Entries.l2 k2 l0 t166 y176 (wrap64 (x9_2 + 1))) = some r := by first | (rw [hy176]; with_reducible exact H) | (have H2_ := (Option.bind_some _ _).symm.trans H; rw [hy176]; with_reducible exact H2_) | (have H2_ := (Option.bind_some _ _).symm.trans H; with_reducible exact H2_) | with_reducible exact H | (rw [hy176]; exact H) | exact H
                          have Ny176 := Aside0.mk hy176
                          clear hy176
                          have H' := Aside0.mk H
                          clear H
                          obtain ⟨Ao28, co28, eo28⟩ := Kd.R_slice HO_7.out
                          subst eo28
                          try go_wp2
                          have n0_ := Aside0.mk (Kd.R_drew HO_7.out)
                          have n1_ := Aside0.mk (Kd.R_drew HO_8.out)
                          have n2_ := Aside0.mk (below_drew1 HB.out)
                          clear HO_7
                          clear HO_8
                          clear HB
                          have HO_7 := n0_
                          have HO_8 := n1_
                          have HB := n2_
                          clear n0_ n1_ n2_
                          have p172 : 0 ≤ (x9_2 : Int) := of_decide_eq_true (by first | (with_reducible assumption) | assumption)
                          have q172 : x9_2 < (t166.length : Int) := of_decide_eq_true (by first | (with_reducible assumption) | assumption)
                          obtain ⟨ad172, e172, hx172_0, hx172_1⟩ := at_T54 (Kd.R_reads' HO_7.out).2.2 x9_2 p172 q172
                          cases e172
                          replace p172 := eq_true p172
                          replace q172 := eq_true q172
                          have p173 : 0 ≤ (((rd_T54 t166 x9_2).f0) : Int) := of_decide_eq_true (by first | (with_reducible assumption) | assumption)
                          have q173 : ((rd_T54 t166 x9_2).f0) < (l0.length : Int) := of_decide_eq_true (by first | (with_reducible assumption) | assumption)
                          obtain ⟨ad173, A173_0, c173_0, e173, hx173_0, hl173_0, hi173_0⟩ := at_L3 HR0.out ((rd_T54 t166 x9_2).f0) p173 q173
                          have hw173_0 := hx173_0
                          cases e173
                          replace hx173_0 := (HB.out.cell (World.block_lt_of_cell? w _ hx173_0)).trans hx173_0
                          have HR173_0 := Aside0.mk hi173_0
                          have HC173_0 := Aside0.mk hl173_0
                          clear hi173_0 hl173_0
                          replace p173 := eq_true p173
                          replace q173 := eq_true q173
                          have p174 : 0 ≤ (x9_2 : Int) := of_decide_eq_true (by first | (with_reducible assumption) | assumption)
                          have q174 : x9_2 < (t166.length : Int) := of_decide_eq_true (by first | (with_reducible assumption) | assumption)
                          obtain ⟨ad174, e174, hx174_0, hx174_1⟩ := at_T54 (Kd.R_reads' HO_7.out).2.2 x9_2 p174 q174
                          obtain rfl : ad172 = ad174 := (by injection e174)
                          replace p174 := eq_true p174
                          replace q174 := eq_true q174
                          have p175 : 0 ≤ (((rd_T54 t166 x9_2).f1) : Int) := of_decide_eq_true (by first | (with_reducible assumption) | assumption)
                          have q175 : ((rd_T54 t166 x9_2).f1) < ((rd_L3 l0 ((rd_T54 t166 x9_2).f0)).length : Int) := of_decide_eq_true (by first | (with_reducible assumption) | assumption)
                          obtain ⟨ad175, e175, hx175_0, hx175_1, hx175_2⟩ := at_T32 HR173_0.out ((rd_T54 t166 x9_2).f1) p175 q175
                          have hw175_2 := hx175_2
                          have hw175_1 := hx175_1
                          have hw175_0 := hx175_0
                          cases e175
                          replace hx175_0 := (HB.out.cell (World.block_lt_of_cell? w _ hx175_0)).trans hx175_0
                          replace hx175_1 := (HB.out.cell (World.block_lt_of_cell? w _ hx175_1)).trans hx175_1
                          replace hx175_2 := (HB.out.cell (World.block_lt_of_cell? w _ hx175_2)).trans hx175_2
                          replace p175 := eq_true p175
                          replace q175 := eq_true q175
                          refine start_ (n := 19) (S := fun w' => w'.cell? (ad172.add ((x9_2).toNat * 2)) = some (.int .i64 ((rd_T54 t166 x9_2).f0)) ∧ w'.cell? ⟨(ad172.add ((x9_2).toNat * 2)).block, (ad172.add ((x9_2).toNat * 2)).off + 1, none⟩ = some (.int .i64 ((rd_T54 t166 x9_2).f1)) ∧ w'.cell? (ad173.add (((rd_T54 t166 x9_2).f0)).toNat) = some (.slice (some ad175) (rd_L3 l0 ((rd_T54 t166 x9_2).f0)).length c173_0) ∧ w'.cell? (ad172.add ((x9_2).toNat * 2)) = some (.int .i64 ((rd_T54 t166 x9_2).f0)) ∧ w'.cell? ⟨(ad172.add ((x9_2).toNat * 2)).block, (ad172.add ((x9_2).toNat * 2)).off + 1, none⟩ = some (.int .i64 ((rd_T54 t166 x9_2).f1)) ∧ w'.cell? (ad175.add ((((rd_T54 t166 x9_2).f1)).toNat * 3)) = some (.int .u64 ((rd_T32 (rd_L3 l0 ((rd_T54 t166 x9_2).f0)) ((rd_T54 t166 x9_2).f1)).f0)) ∧ w'.cell? ⟨(ad175.add ((((rd_T54 t166 x9_2).f1)).toNat * 3)).block, (ad175.add ((((rd_T54 t166 x9_2).f1)).toNat * 3)).off + 1, none⟩ = some (.int .u64 ((rd_T32 (rd_L3 l0 ((rd_T54 t166 x9_2).f0)) ((rd_T54 t166 x9_2).f1)).f1)) ∧ w'.cell? ⟨(ad175.add ((((rd_T54 t166 x9_2).f1)).toNat * 3)).block, (ad175.add ((((rd_T54 t166 x9_2).f1)).toNat * 3)).off + 2, none⟩ = some (.bool ((rd_T32 (rd_L3 l0 ((rd_T54 t166 x9_2).f0)) ((rd_T54 t166 x9_2).f1)).f2))) (ds := [16, 17]) #[false, false, false, false, false, false, false, false, false, false, false, false, false, false, false, false, false, false, false] (by kernel_rfl) rfl rfl ⟨hx172_0, hx172_1, ((HB.out.cell (World.block_lt_of_cell? w _ hw173_0)).trans hw173_0), hx174_0, hx174_1, ((HB.out.cell (World.block_lt_of_cell? w _ hw175_0)).trans hw175_0), ((HB.out.cell (World.block_lt_of_cell? w _ hw175_1)).trans hw175_1), ((HB.out.cell (World.block_lt_of_cell? w _ hw175_2)).trans hw175_2)⟩ (fun hHeld => ?_); refine with_tabW inclineref13_Entries.tab16 inclineref13_Entries.bits16 (fun HT_ HW_ => ?_)
                          generalize wr.drew = w29 at HO_7 HO_8 HB HR173_0 hx172_0 hx172_1 hx173_0 hx174_0 hx174_1 hx175_0 hx175_1 hx175_2 hHeld ⊢
                          refine pure_ (i := 0) (N := some 51) (v := ?_) (a' := ?_) #[true, false, false, false, false, false, false, false, false, false, false, false, false, false, false, false, false, false, false] rfl rfl (any_of HT_.out (by kernel_rfl)) (fun _ _ _ h => h) (Or.inl ⟨by rfl, ?_⟩) ?_ ?_
                          rotate_left
                          · intro w'
                            go_simp
                            with_reducible rfl
                          rotate_left
                          · simp only [Act.put, List.setIfInBounds_toArray, List.set_cons_zero, List.set_cons_succ, i64_w, i32_w]
                            rfl
                          refine pure_ (i := 1) (N := some 52) (v := ?_) (a' := ?_) #[true, true, false, false, false, false, false, false, false, false, false, false, false, false, false, false, false, false, false] rfl rfl (any_of HT_.out (by kernel_rfl)) (fun _ _ _ h => h) (Or.inl ⟨by rfl, ?_⟩) ?_ ?_
                          rotate_left
                          · intro w'
                            go_simp
                            with_reducible rfl
                          rotate_left
                          · simp only [Act.put, List.setIfInBounds_toArray, List.set_cons_zero, List.set_cons_succ, i64_w, i32_w]
                            rfl
                          refine pure_ (i := 2) (N := some 53) (v := ?_) (a' := ?_) #[true, true, true, false, false, false, false, false, false, false, false, false, false, false, false, false, false, false, false] rfl rfl (any_of HT_.out (by kernel_rfl)) (fun _ _ _ h => h) (Or.inl ⟨by rfl, ?_⟩) ?_ ?_
                          rotate_left
                          · intro w'
                            go_simp
                            with_reducible rfl
                          rotate_left
                          · simp only [Act.put, List.setIfInBounds_toArray, List.set_cons_zero, List.set_cons_succ, i64_w, i32_w]
                            rfl
                          refine pure_ (i := 3) (N := some 54) (v := ?_) (a' := ?_) #[true, true, true, true, false, false, false, false, false, false, false, false, false, false, false, false, false, false, false] rfl rfl (any_of HT_.out (by kernel_rfl)) (fun _ _ _ h => h) (Or.inl ⟨by rfl, ?_⟩) ?_ ?_
                          rotate_left
                          · intro w'
                            go_simp
                            with_reducible rfl
                          rotate_left
                          · simp only [Act.put, List.setIfInBounds_toArray, List.set_cons_zero, List.set_cons_succ, i64_w, i32_w]
                            rfl
                          refine pure_ (i := 4) (N := some 55) (v := ?_) (a' := ?_) #[true, true, true, true, true, false, false, false, false, false, false, false, false, false, false, false, false, false, false] rfl rfl (any_of HT_.out (by kernel_rfl)) (fun _ _ _ h => h) (Or.inl ⟨by rfl, ?_⟩) ?_ ?_
                          rotate_left
                          · intro w'
                            go_simp
                            with_reducible rfl
                          rotate_left
                          · simp only [Act.put, List.setIfInBounds_toArray, List.set_cons_zero, List.set_cons_succ, i64_w, i32_w]
                            rfl
                          refine pure_ (i := 5) (N := some 56) (v := ?_) (a' := ?_) #[true, true, true, true, true, true, false, false, false, false, false, false, false, false, false, false, false, false, false] rfl rfl (any_of HT_.out (by kernel_rfl)) (fun _ _ _ h => h) (Or.inl ⟨by rfl, ?_⟩) ?_ ?_
                          rotate_left
                          · intro w'
                            go_simp
                            with_reducible rfl
                          rotate_left
                          · simp only [Act.put, List.setIfInBounds_toArray, List.set_cons_zero, List.set_cons_succ, i64_w, i32_w]
                            rfl
                          refine pure_ (i := 9) (N := some 60) (v := ?_) (a' := ?_) #[true, true, true, true, true, true, false, false, false, true, false, false, false, false, false, false, false, false, false] rfl rfl (any_of HT_.out (by kernel_rfl)) (fun _ _ _ h => h) (Or.inl ⟨by rfl, ?_⟩) ?_ ?_
                          rotate_left
                          · intro w'
                            go_simp
                            with_reducible rfl
                          rotate_left
                          · simp only [Act.put, List.setIfInBounds_toArray, List.set_cons_zero, List.set_cons_succ, i64_w, i32_w]
                            rfl
                          refine pure_ (i := 10) (N := some 61) (v := ?_) (a' := ?_) #[true, true, true, true, true, true, false, false, false, true, true, false, false, false, false, false, false, false, false] rfl rfl (any_of HT_.out (by kernel_rfl)) (fun _ _ _ h => h) (Or.inl ⟨by rfl, ?_⟩) ?_ ?_
                          rotate_left
                          · intro w'
                            go_simp
                            with_reducible rfl
                          rotate_left
                          · simp only [Act.put, List.setIfInBounds_toArray, List.set_cons_zero, List.set_cons_succ, i64_w, i32_w]
                            rfl
                          refine pure_ (i := 11) (N := some 62) (v := ?_) (a' := ?_) #[true, true, true, true, true, true, false, false, false, true, true, true, false, false, false, false, false, false, false] rfl rfl (any_of HT_.out (by kernel_rfl)) (fun _ _ _ h => h) (Or.inl ⟨by rfl, ?_⟩) ?_ ?_
                          rotate_left
                          · intro w'
                            go_simp
                            with_reducible rfl
                          rotate_left
                          · simp only [Act.put, List.setIfInBounds_toArray, List.set_cons_zero, List.set_cons_succ, i64_w, i32_w]
                            rfl
                          refine pure_ (i := 12) (N := some 63) (v := ?_) (a' := ?_) #[true, true, true, true, true, true, false, false, false, true, true, true, true, false, false, false, false, false, false] rfl rfl (any_of HT_.out (by kernel_rfl)) (fun _ _ _ h => h) (Or.inl ⟨by rfl, ?_⟩) ?_ ?_
                          rotate_left
                          · intro w'
                            go_simp
                            with_reducible rfl
                          rotate_left
                          · simp only [Act.put, List.setIfInBounds_toArray, List.set_cons_zero, List.set_cons_succ, i64_w, i32_w]
                            rfl
                          refine take_ (i := 6) (N := some 57) (v := ?_) (a' := ?_) #[true, true, true, true, true, true, true, false, false, true, true, true, true, false, false, false, false, false, false] rfl rfl (take_ofW HT_.out HW_.out (by kernel_rfl)) (fun _ _ _ h => h) (Or.inl ⟨by rfl, ?_⟩) hHeld ?_ ?_
                          rotate_left
                          · rintro w' ⟨s0, s1, s2, s3, s4, s5, s6, s7⟩
                            go_simp
                            with_reducible rfl
                          rotate_left
                          · simp only [Act.put, List.setIfInBounds_toArray, List.set_cons_zero, List.set_cons_succ, i64_w, i32_w]
                            rfl
                          refine pure_ (i := 7) (N := some 58) (v := ?_) (a' := ?_) #[true, true, true, true, true, true, true, true, false, true, true, true, true, false, false, false, false, false, false] rfl rfl (any_of HT_.out (by kernel_rfl)) (fun _ _ _ h => h) (Or.inl ⟨by rfl, ?_⟩) ?_ ?_
                          rotate_left
                          · intro w'
                            go_simp
                            with_reducible rfl
                          rotate_left
                          · simp only [Act.put, List.setIfInBounds_toArray, List.set_cons_zero, List.set_cons_succ, i64_w, i32_w]
                            rfl
                          refine take_ (i := 8) (N := some 59) (v := ?_) (a' := ?_) #[true, true, true, true, true, true, true, true, true, true, true, true, true, false, false, false, false, false, false] rfl rfl (take_ofW HT_.out HW_.out (by kernel_rfl)) (fun _ _ _ h => h) (Or.inl ⟨by rfl, ?_⟩) hHeld ?_ ?_
                          rotate_left
                          · rintro w' ⟨s0, s1, s2, s3, s4, s5, s6, s7⟩
                            go_simp
                            with_reducible rfl
                          rotate_left
                          · simp only [Act.put, List.setIfInBounds_toArray, List.set_cons_zero, List.set_cons_succ, i64_w, i32_w]
                            rfl
                          refine take_ (i := 13) (N := some 64) (v := ?_) (a' := ?_) #[true, true, true, true, true, true, true, true, true, true, true, true, true, true, false, false, false, false, false] rfl rfl (take_ofW HT_.out HW_.out (by kernel_rfl)) (fun _ _ _ h => h) (Or.inl ⟨by rfl, ?_⟩) hHeld ?_ ?_
                          rotate_left
                          · rintro w' ⟨s0, s1, s2, s3, s4, s5, s6, s7⟩
                            go_simp
                            with_reducible rfl
                          rotate_left
                          · simp only [Act.put, List.setIfInBounds_toArray, List.set_cons_zero, List.set_cons_succ, i64_w, i32_w]
                            rfl
                          refine pure_ (i := 14) (N := some 65) (v := ?_) (a' := ?_) #[true, true, true, true, true, true, true, true, true, true, true, true, true, true, true, false, false, false, false] rfl rfl (any_of HT_.out (by kernel_rfl)) (fun _ _ _ h => h) (Or.inl ⟨by rfl, ?_⟩) ?_ ?_
                          rotate_left
                          · intro w'
                            go_simp
                            with_reducible rfl
                          rotate_left
                          · simp only [Act.put, List.setIfInBounds_toArray, List.set_cons_zero, List.set_cons_succ, i64_w, i32_w]
                            rfl
                          refine take_ (i := 15) (N := some 66) (v := ?_) (a' := ?_) #[true, true, true, true, true, true, true, true, true, true, true, true, true, true, true, true, false, false, false] rfl rfl (take_ofW HT_.out HW_.out (by kernel_rfl)) (fun _ _ _ h => h) (Or.inl ⟨by rfl, ?_⟩) hHeld ?_ ?_
                          rotate_left
                          · rintro w' ⟨s0, s1, s2, s3, s4, s5, s6, s7⟩
                            go_simp
                            with_reducible rfl
                          rotate_left
                          · simp only [Act.put, List.setIfInBounds_toArray, List.set_cons_zero, List.set_cons_succ, i64_w, i32_w]
                            rfl
                          refine last_ (i := 16) (N := some 67) #[true, true, true, true, true, true, true, true, true, true, true, true, true, true, true, true, true, false, false] rfl rfl (one_of HT_.out (by kernel_rfl)) (by decide) (fun K hK => ?_)
                          refine value_ (w1 := ?_) (v := ?_) (by rfl) rfl ?_ ?_
                          rotate_left 2
                          · go_simp
                            constructor
                            · rfl
                            · rfl
                          refine hK.out _ _ ?_
                          clear hK K
                          refine norm_ (a' := ?_) ?_ ?_
                          rotate_left
                          · show Act.put _ (some 67) _ = _
                            simp only [Act.put, List.setIfInBounds_toArray, List.set_cons_zero, List.set_cons_succ, i64_w, i32_w]
                            rfl
                          refine last_ (i := 17) (N := some 68) #[true, true, true, true, true, true, true, true, true, true, true, true, true, true, true, true, true, true, false] rfl rfl (one_of HT_.out (by kernel_rfl)) (by decide) (fun K hK => ?_)
                          refine Kd.R_append_step k32 (w0 := w) w.heap.size (by rfl) (.tmp 51) (.tmp 67) 25 32 (.agg #[(.int .u64 0), (.int .u64 0), (.bool false)]) 24 rfl Try.underlying25 info32 rfl (by decide) (by omega) u8 x8_2 (⟨(rd_T32 (rd_L3 l0 ((rd_T54 t166 x9_2).f0)) ((rd_T54 t166 x9_2).f1)).f0, (rd_T32 (rd_L3 l0 ((rd_T54 t166 x9_2).f0)) ((rd_T54 t166 x9_2).f1)).f1, (rd_T32 (rd_L3 l0 ((rd_T54 t166 x9_2).f0)) ((rd_T54 t166 x9_2).f1)).f2⟩ : S32) [.int .u64 ((rd_T32 (rd_L3 l0 ((rd_T54 t166 x9_2).f0)) ((rd_T54 t166 x9_2).f1)).f0), .int .u64 ((rd_T32 (rd_L3 l0 ((rd_T54 t166 x9_2).f0)) ((rd_T54 t166 x9_2).f1)).f1), .bool ((rd_T32 (rd_L3 l0 ((rd_T54 t166 x9_2).f0)) ((rd_T54 t166 x9_2).f1)).f2)] (fun _ => True) (fun _ => False) rfl rfl ?aP (fun _ hk => hk.elim) ?aF ?aO ?aB ?aS ?aL ?_
                          (case aP => exact k32_mkM _ _ _ (⟨(rd_T32 (rd_L3 l0 ((rd_T54 t166 x9_2).f0)) ((rd_T54 t166 x9_2).f1)).f0, (rd_T32 (rd_L3 l0 ((rd_T54 t166 x9_2).f0)) ((rd_T54 t166 x9_2).f1)).f1, (rd_T32 (rd_L3 l0 ((rd_T54 t166 x9_2).f0)) ((rd_T54 t166 x9_2).f1)).f2⟩ : S32))
                          (case aB => exact (by repeat (first | (with_reducible first | exact HB.out | apply below_alloc | apply pw_below_drewN | apply below_drew1) | exact HB.out)))
                          (case aF => exact (fun _ _ => trivial))
                          (case aO => exact (by (with_reducible repeat (first | apply Kd.R_alloc | apply Kd.R_drewN | apply Kd.R_drew)); exact HO_8.out))
                          (case aS => exact (below_size (by repeat (first | (with_reducible first | exact HB.out | apply below_alloc | apply pw_below_drewN | apply below_drew1) | exact HB.out))))
                          (case aL => have := LMc27.out; omega)
                          intro v177 w30 ho hb hg hat
                          rw [← Ny176.out] at ho
                          have n0_ := Aside0.mk (Kd.R_over' (by (with_reducible repeat (first | apply Kd.R_alloc | apply Kd.R_drewN | apply Kd.R_drew)); exact HO_7.out) (Kd.R_typed (by (with_reducible repeat (first | apply Kd.R_alloc | apply Kd.R_drewN | apply Kd.R_drew)); exact HO_8.out)) (by decide) hg)
                          have n1_ := Aside0.mk (hb)
                          have n2_ := Aside0.mk (ho)
                          clear HO_7
                          clear HB
                          clear HO_8
                          have HO_7 := n0_
                          have HB := n1_
                          have HO178 := n2_
                          clear n0_ n1_ n2_
                          clear ho hb hg hat
                          refine hK.out _ _ ?_
                          clear hK K
                          refine norm_ (a' := ?_) ?_ ?_
                          rotate_left
                          · show Act.put _ (some 68) _ = _
                            simp only [Act.put, List.setIfInBounds_toArray, List.set_cons_zero, List.set_cons_succ, i64_w, i32_w]
                            rfl
                          refine pure_ (i := 18) (N := some 8) (v := ?_) (a' := ?_) #[true, true, true, true, true, true, true, true, true, true, true, true, true, true, true, true, true, true, true] rfl rfl (any_of HT_.out (by kernel_rfl)) (fun _ _ _ h => h) (Or.inl ⟨by rfl, ?_⟩) ?_ ?_
                          rotate_left
                          · intro w'
                            go_simp
                            with_reducible rfl
                          rotate_left
                          · simp only [Act.put, List.setIfInBounds_toArray, List.set_cons_zero, List.set_cons_succ, i64_w, i32_w]
                            rfl
                          refine done_ (done_of HT_.out (by kernel_rfl)) ?_
                          try go_wp2
                          go_roundg k2
                          case measure => have := HK1.out; have := HK2.out; omega
                          case rel => exact ⟨(y176), (wrap64 (x9_2 + 1)), (by first | rfl | (simp; done) | (simp [*]; done)), H', ⟨by have := HK1.out; have := HK2.out; omega⟩, ⟨by (with_reducible repeat (first | apply Kd.R_alloc | apply Kd.R_drewN | apply Kd.R_drew)); exact HO_7.out⟩, ⟨by (with_reducible repeat (first | apply Kd.R_alloc | apply Kd.R_drewN | apply Kd.R_drew)); exact HO178.out⟩, ⟨by repeat (first | (with_reducible first | exact HB.out | apply below_alloc | apply pw_below_drewN | apply below_drew1) | exact HB.out)⟩⟩
                        · rw [if_neg c27] at H
                          exact absurd H (by simp)
                      · rw [if_neg c26] at H
                        exact absurd H (by simp)
                    · rw [if_neg c25] at H
                      exact absurd H (by simp)
                  · rw [if_neg c24] at H
                    exact absurd H (by simp)
                · rw [if_neg c23] at H
                  exact absurd H (by simp)
              · rw [if_neg c22] at H
                exact absurd H (by simp)
            · rw [if_neg c21] at H
              have c21b0 : decide (x9_2 < (t166.length : Int)) = false := decide_eq_false c21
              clear c21
              obtain rfl := Option.some.inj H
              obtain ⟨Ao31, co31, eo31⟩ := Kd.R_slice HO_7.out
              subst eo31
              go_wp2
              go_ret
              exact ⟨_, by first | rfl | (simp [errW_none, errW_some] <;> rfl) | (simp [*, errW_none, errW_some] <;> rfl), by (with_reducible repeat (first | apply Kd.R_alloc | apply Kd.R_drewN | apply Kd.R_drew)); exact HO_8.out, by repeat (first | (with_reducible first | exact HB.out | apply below_alloc | apply pw_below_drewN | apply below_drew1) | exact HB.out)⟩

end Go.Proofs.Ytojbfjfjhfnopaa.G
end

section
/- The reference's Merge, on lists. -/
namespace Go.Proofs.Ytojbfjfjhfnopaa.Pure
open Go.RowKit Go.Proofs.Ytojbfjfjhfnopaa.G Go.Proofs.YtojbfjfjhfnopaaW.PrintWords Go.Proofs.YtojbfjfjhfnopaaW.PrintLast
open MergeL
set_option linter.unusedVariables false
/-- For all fuel from some on. -/
def EvR {β : Type} (f : Nat → Option β) (r : β) : Prop := ∃ K, ∀ k, K ≤ k → f k = some r
theorem EvR.succ {β : Type} {f g : Nat → Option β} {r : β} (h : EvR g r) (M : Nat) (hf : ∀ k, M ≤ k → g k = some r → f (k + 1) = some r) : EvR f r := by
  obtain ⟨K, hK⟩ := h
  refine ⟨max K M + 1, fun k hk => ?_⟩
  obtain ⟨k, rfl⟩ : ∃ m, k = m + 1 := ⟨k - 1, by omega⟩
  exact hf k (by omega) (hK k (by omega))
theorem EvR.now {β : Type} {f : Nat → Option β} {r : β} (hf : ∀ k, f (k + 1) = some r) : EvR f r := ⟨1, fun k hk => by
  obtain ⟨k, rfl⟩ : ∃ m, k = m + 1 := ⟨k - 1, by omega⟩
  exact hf k⟩
section
variable (ks : List (List Int))
def ln (i : Nat) : Nat := (ks.getD i []).length
def ky (i p : Nat) : Int := (ks.getD i []).getD p 0
def pk (x : S54) : Int := ky ks x.f0.toNat x.f1.toNat
def mk54 (i j : Nat) : S54 := ⟨(i : Int), (j : Int)⟩
def rowAt (i p : Nat) : List S54 := ((List.range (ln ks i)).drop p).map (mk54 i)
def pos (ps : List Nat) (i : Nat) : Nat := ps.getD i 0
theorem pos_get {ps : List Nat} {j : Nat} (h : j < ps.length) : pos ps j = ps[j] := by unfold pos; rw [List.getD_eq_getElem?_getD, List.getElem?_eq_getElem h]; rfl
theorem pos_set_self {ps : List Nat} {j v : Nat} (h : j < ps.length) : pos (ps.set j v) j = v := by unfold pos; rw [List.getD_eq_getElem?_getD, List.getElem?_set_self h]; rfl
theorem pos_set_ne {ps : List Nat} {i j v : Nat} (h : i ≠ j) : pos (ps.set i v) j = pos ps j := by unfold pos; rw [List.getD_eq_getElem?_getD, List.getElem?_set_ne h, ← List.getD_eq_getElem?_getD]
def rem (ps : List Nat) : List (List S54) := (List.range ks.length).map (fun i => rowAt ks i (pos ps i))
theorem pk_mk (i j : Nat) : pk ks (mk54 i j) = ky ks i j := by simp [pk, mk54]
theorem rowAt_cons {i p : Nat} (h : p < ln ks i) : rowAt ks i p = mk54 i p :: rowAt ks i (p + 1) := by
  unfold rowAt
  rw [List.drop_eq_getElem_cons (by simpa using h), List.map_cons]
  simp
theorem rowAt_nil {i p : Nat} (h : ln ks i ≤ p) : rowAt ks i p = [] := by
  unfold rowAt
  rw [List.drop_eq_nil_of_le (by simpa using h)]
  rfl
theorem rem_get (ps : List Nat) {i : Nat} (hi : i < ks.length) : (rem ks ps)[i]? = some (rowAt ks i (pos ps i)) := by
  unfold rem
  rw [List.getElem?_map, List.getElem?_range hi]
  rfl
theorem rem_len (ps : List Nat) : (rem ks ps).length = ks.length := by simp [rem]
variable (ps : List Nat)
def sp (kk : Int) (i : Nat) : List Nat := (List.range ks.length).map (fun j => if j < i ∧ pos ps j < ln ks j ∧ ky ks j (pos ps j) = kk then pos ps j + 1 else pos ps j)
theorem sp_len (kk : Int) (i : Nat) : (sp ks ps kk i).length = ks.length := by simp [sp]
theorem sp_get (kk : Int) (i : Nat) {j : Nat} (hj : j < ks.length) : pos (sp ks ps kk i) j = if j < i ∧ pos ps j < ln ks j ∧ ky ks j (pos ps j) = kk then pos ps j + 1 else pos ps j := by
  unfold pos sp
  rw [List.getD_eq_getElem?_getD, List.getElem?_map, List.getElem?_range hj]
  rfl
theorem sp_zero (kk : Int) (hl : ps.length = ks.length) : sp ks ps kk 0 = ps := by
  apply List.ext_getElem
  · rw [sp_len, hl]
  · intro j h1 h2
    have := sp_get ks ps kk 0 (j := j) (by omega)
    rw [if_neg (by omega)] at this
    rw [pos_get h1, pos_get h2] at this
    exact this
theorem sp_succ (kk : Int) {i : Nat} (hi : i < ks.length) : sp ks ps kk (i + 1) = if pos ps i < ln ks i ∧ ky ks i (pos ps i) = kk then (sp ks ps kk i).set i (pos ps i + 1) else sp ks ps kk i := by
  have key : ∀ j, j < ks.length → pos (sp ks ps kk (i + 1)) j = pos (if pos ps i < ln ks i ∧ ky ks i (pos ps i) = kk then (sp ks ps kk i).set i (pos ps i + 1) else sp ks ps kk i) j := fun j hj => by
    rw [sp_get ks ps kk (i + 1) hj]
    by_cases e : j = i
    · subst e
      by_cases hc : pos ps j < ln ks j ∧ ky ks j (pos ps j) = kk
      · rw [if_pos ⟨by omega, hc⟩, if_pos hc]
        rw [pos_set_self (by rw [sp_len]; exact hj)]
      · rw [if_neg (fun h => hc h.2), if_neg hc, sp_get ks ps kk j hj, if_neg (by omega)]
    · have h1 : pos (if pos ps i < ln ks i ∧ ky ks i (pos ps i) = kk then (sp ks ps kk i).set i (pos ps i + 1) else sp ks ps kk i) j = pos (sp ks ps kk i) j := by
        split
        · exact pos_set_ne (Ne.symm e)
        · rfl
      rw [h1, sp_get ks ps kk i hj]
      by_cases hji : j < i
      · have e1 : (j < i + 1 ∧ pos ps j < ln ks j ∧ ky ks j (pos ps j) = kk) = (j < i ∧ pos ps j < ln ks j ∧ ky ks j (pos ps j) = kk) := by simp [hji, show j < i + 1 from by omega]
        simp only [e1]
      · rw [if_neg (fun h => by omega), if_neg (fun h => hji h.1)]
  have hlen : (if pos ps i < ln ks i ∧ ky ks i (pos ps i) = kk then (sp ks ps kk i).set i (pos ps i + 1) else sp ks ps kk i).length = ks.length := by split <;> simp [sp_len]
  apply List.ext_getElem
  · rw [sp_len, hlen]
  · intro j h1 h2
    have := key j (by rw [sp_len] at h1; exact h1)
    rw [pos_get h1, pos_get h2] at this
    exact this
theorem rem_step (kk : Int) : rem ks (sp ks ps kk ks.length) = MergeL.step (pk ks) kk (rem ks ps) := by
  apply List.ext_getElem?
  intro i
  by_cases hi : i < ks.length
  · unfold MergeL.step
    rw [rem_get ks _ hi, List.getElem?_map, rem_get ks _ hi]
    show some (rowAt ks i (pos (sp ks ps kk ks.length) i)) = some (drop1 (pk ks) kk (rowAt ks i (pos ps i)))
    congr 1
    rw [sp_get ks ps kk ks.length hi]
    by_cases hp : pos ps i < ln ks i
    · rw [rowAt_cons ks hp]
      simp only [drop1, pk_mk]
      by_cases hk : ky ks i (pos ps i) = kk
      · rw [if_pos ⟨hi, hp, hk⟩, if_pos hk]
      · rw [if_neg (fun h => hk h.2.2), if_neg hk, rowAt_cons ks hp]
    · rw [if_neg (fun h => hp h.2.1), rowAt_nil ks (Nat.not_lt.1 hp)]
      rfl
  · rw [List.getElem?_eq_none (by rw [rem_len]; omega), List.getElem?_eq_none (by simp [MergeL.step, rem_len]; omega)]
structure Small : Prop where
  n : ks.length ≤ 1048576
  len : ∀ i, ln ks i ≤ 1048576
variable {ks ps}
abbrev ints (ps : List Nat) : List Int := ps.map (fun p : Nat => (p : Int))
theorem rd_ints (i : Nat) (h : i < ps.length) : rd (ints ps) (i : Int) = (pos ps i : Int) := by
  simp [rd, ints, pos, List.getD_eq_getElem?_getD, List.getElem?_eq_getElem h]
theorem rd_L4_get (i : Nat) : rd_L4 ks (i : Int) = ks.getD i [] := rfl
theorem rd_ky (i p : Nat) : rd (ks.getD i []) (p : Int) = ky ks i p := rfl
/-- The first of the least, among the first i lists. -/
def Fst (first : Int) (i : Nat) : Prop := (first = -1 ∧ ∀ j, j < i → ln ks j ≤ pos ps j) ∨ ∃ f : Nat, first = (f : Int) ∧ f < i ∧ pos ps f < ln ks f ∧ ∀ j, j < i → pos ps j < ln ks j → ky ks f (pos ps f) < ky ks j (pos ps j) ∨ (ky ks f (pos ps f) = ky ks j (pos ps j) ∧ f ≤ j)
theorem ev_l1 (hs : Small ks) (hl : ps.length = ks.length) (hp : ∀ i, pos ps i ≤ 1048576) (out : List S54) (ho : out.length ≤ 2097152) (R : List S54) (hnone : (∀ j, j < ks.length → ln ks j ≤ pos ps j) → R = out)
    (hsome : ∀ f : Nat, f < ks.length → pos ps f < ln ks f → (∀ j, j < ks.length → pos ps j < ln ks j → ky ks f (pos ps f) < ky ks j (pos ps j) ∨ (ky ks f (pos ps f) = ky ks j (pos ps j) ∧ f ≤ j)) → EvR (fun k => inclineref13_Merge.l2 k ks (ints ps) (out ++ [mk54 f (pos ps f)]) (ky ks f (pos ps f)) 0) R) :
    ∀ (d i : Nat) (first : Int), i ≤ ks.length → ks.length ≤ i + d → Fst (ks := ks) (ps := ps) first i → EvR (fun k => inclineref13_Merge.l1 k ks (ints ps) out first i) R := by
  have hn := hs.n
  have hil : (ints ps).length = ks.length := by simp [ints, hl]
  intro d
  induction d with
  | zero =>
    intro i first hi hd hf
    obtain rfl : i = ks.length := by omega
    rcases hf with ⟨rfl, hf⟩ | ⟨f, rfl, hfi, hfp, hmin⟩
    · refine EvR.now fun k => ?_
      simp only [inclineref13_Merge.l1]
      rw [if_neg (by omega), if_pos (by omega), hnone hf]
    · refine (hsome f hfi hfp hmin).succ 0 fun k _ hk => ?_
      have hpf := hp f
      simp only [inclineref13_Merge.l1]
      rw [if_neg (by omega), if_neg (by omega), if_pos (by omega), if_pos (by omega), if_pos (by omega), if_pos (by omega), rd_ints f (by omega), rd_L4_get, if_pos (by omega), if_pos (by unfold ln at hfp; omega), rd_ky]
      exact hk
  | succ d ih =>
    intro i first hi hd hf
    by_cases hlt : i < ks.length
    · have hpi := hp i
      by_cases hpl : pos ps i < ln ks i
      · -- the list has a head
        have hnx : EvR (fun k => inclineref13_Merge.l1 k ks (ints ps) out (if first < 0 then (i : Int) else if ky ks i (pos ps i) < ky ks first.toNat (pos ps first.toNat) then (i : Int) else first) ((i + 1 : Nat) : Int)) R := by
          refine ih (i + 1) _ (by omega) (by omega) ?_
          rcases hf with ⟨rfl, hf⟩ | ⟨f, rfl, hfi, hfp, hmin⟩
          · rw [if_pos (by omega)]
            refine .inr ⟨i, rfl, by omega, hpl, fun j hj hjp => ?_⟩
            rcases Nat.lt_or_ge j i with h | h
            · have := hf j h; omega
            · obtain rfl : j = i := by omega
              exact .inr ⟨rfl, Nat.le_refl _⟩
          · rw [if_neg (by omega), Int.toNat_natCast]
            split
            · rename_i hlt2
              refine .inr ⟨i, rfl, by omega, hpl, fun j hj hjp => ?_⟩
              rcases Nat.lt_or_ge j i with h | h
              · have := hmin j h hjp; left; omega
              · obtain rfl : j = i := by omega
                exact .inr ⟨rfl, Nat.le_refl _⟩
            · rename_i hge
              refine .inr ⟨f, rfl, by omega, hfp, fun j hj hjp => ?_⟩
              rcases Nat.lt_or_ge j i with h | h
              · exact hmin j h hjp
              · obtain rfl : j = i := by omega
                omega
        refine hnx.succ 0 fun k _ hk => ?_
        simp only [inclineref13_Merge.l1]
        rw [if_pos (by omega), if_pos (by omega), if_pos (by omega), rd_ints i (by omega), rd_L4_get, if_pos (by unfold ln at hpl; omega), w64 (by omega) (by omega)]
        rcases hf with ⟨rfl, hf⟩ | ⟨f, rfl, hfi, hfp, hmin⟩
        · rw [if_pos (by omega)]
          rw [if_pos (by omega)] at hk
          exact hk
        · have hpf := hp f
          rw [if_neg (by omega), Int.toNat_natCast] at hk
          rw [if_neg (by omega), if_pos (by omega), if_pos (by omega), if_pos (by omega), if_pos (by omega), rd_ints f (by omega), rd_L4_get, if_pos (by omega), if_pos (by unfold ln at hfp; omega), rd_ky, rd_ky]
          split
          · rename_i h; rw [if_pos h] at hk; exact hk
          · rename_i h; rw [if_neg h] at hk; exact hk
      · have hnx := ih (i + 1) first (by omega) (by omega) (by
          rcases hf with ⟨rfl, hf⟩ | ⟨f, rfl, hfi, hfp, hmin⟩
          · refine .inl ⟨rfl, fun j hj => ?_⟩
            rcases Nat.lt_or_ge j i with h | h
            · exact hf j h
            · obtain rfl : j = i := by omega
              omega
          · refine .inr ⟨f, rfl, by omega, hfp, fun j hj hjp => ?_⟩
            rcases Nat.lt_or_ge j i with h | h
            · exact hmin j h hjp
            · obtain rfl : j = i := by omega
              exact absurd hjp hpl)
        refine hnx.succ 0 fun k _ hk => ?_
        simp only [inclineref13_Merge.l1]
        rw [if_pos (by omega), if_pos (by omega), if_pos (by omega), rd_ints i (by omega), rd_L4_get, if_neg (by unfold ln at hpl; omega), w64 (by omega) (by omega)]
        exact hk
    · exact ih i first hi (by omega) hf
theorem ev_l2 (hs : Small ks) (hl : ps.length = ks.length) (hp : ∀ i, pos ps i ≤ 1048576) (kk : Int) (out : List S54) (R : List S54) (hn : EvR (fun k => inclineref13_Merge.l0 k ks (ints (sp ks ps kk ks.length)) out) R) :
    ∀ (d i : Nat), i ≤ ks.length → ks.length ≤ i + d → EvR (fun k => inclineref13_Merge.l2 k ks (ints (sp ks ps kk i)) out kk i) R := by
  have hnn := hs.n
  intro d
  induction d with
  | zero =>
    intro i hi hd
    obtain rfl : i = ks.length := by omega
    refine hn.succ 0 fun k _ hk => ?_
    simp only [inclineref13_Merge.l2]
    rw [if_neg (by omega)]
    exact hk
  | succ d ih =>
    intro i hi hd
    by_cases hlt : i < ks.length
    · have hpi := hp i
      have hnx := ih (i + 1) (by omega) (by omega)
      rw [sp_succ ks ps kk hlt] at hnx
      have hil : (ints (sp ks ps kk i)).length = ks.length := by simp [ints, sp_len]
      have hg : pos (sp ks ps kk i) i = pos ps i := by rw [sp_get ks ps kk i hlt, if_neg (by omega)]
      have hrd : rd (ints (sp ks ps kk i)) (i : Int) = (pos ps i : Int) := by rw [rd_ints i (by rw [sp_len]; exact hlt), hg]
      refine hnx.succ 0 fun k _ hk => ?_
      simp only [inclineref13_Merge.l2]
      rw [if_pos (by omega), if_pos (by omega), if_pos (by omega), hrd, rd_L4_get]
      by_cases hpl : pos ps i < ln ks i
      · rw [if_pos (by unfold ln at hpl; omega), if_pos (by omega), rd_ky]
        by_cases hk2 : ky ks i (pos ps i) = kk
        · rw [if_pos ⟨hpl, hk2⟩] at hk
          rw [if_pos hk2, w64 (i := (pos ps i : Int) + 1) (by omega) (by omega), w64 (i := (i : Int) + 1) (by omega) (by omega), Int.toNat_natCast]
          have e : (ints (sp ks ps kk i)).set i ((pos ps i : Int) + 1) = ints ((sp ks ps kk i).set i (pos ps i + 1)) := by
            unfold ints
            rw [List.map_set]
            rfl
          rw [e]
          exact hk
        · rw [if_neg (fun h => hk2 h.2)] at hk
          rw [if_neg hk2, w64 (by omega) (by omega)]
          exact hk
      · rw [if_neg (fun h => hpl h.1)] at hk
        rw [if_neg (by unfold ln at hpl; omega), w64 (by omega) (by omega)]
        exact hk
    · exact ih i hi (by omega)
theorem ev_l0 (hs : Small ks) : ∀ (f : Nat) (ps : List Nat) (out : List S54), ps.length = ks.length → (∀ i, pos ps i ≤ 1048576) → (∀ i, i < ks.length → pos ps i ≤ ln ks i) → total (rem ks ps) ≤ f → out.length + f ≤ 1048576 → EvR (fun k => inclineref13_Merge.l0 k ks (ints ps) out) (out ++ mergeF (pk ks) f (rem ks ps)) := by
  intro f
  induction f with
  | zero =>
    intro ps out hl hp hle ht ho
    have hnil : ∀ j, j < ks.length → ln ks j ≤ pos ps j := fun j hj => by
      apply Classical.byContradiction
      intro h
      have h1 := rem_get ks ps hj
      have h2 := len_le_total (List.mem_of_getElem? h1)
      rw [rowAt_cons ks (Nat.not_le.1 h), List.length_cons] at h2
      omega
    refine (ev_l1 hs hl hp out (by omega) (out ++ mergeF (pk ks) 0 (rem ks ps)) (fun _ => by simp [mergeF]) (fun f hf hfp _ => by have := hnil f hf; omega) ks.length 0 (-1) (by omega) (by omega) (.inl ⟨rfl, fun j hj => by omega⟩)).succ 0 fun k _ hk => ?_
    simp only [inclineref13_Merge.l0]
    exact hk
  | succ f ih =>
    intro ps out hl hp hle ht ho
    refine (ev_l1 hs hl hp out (by omega) (out ++ mergeF (pk ks) (f + 1) (rem ks ps)) (fun hn => ?_) (fun g hg hgp hmin => ?_) ks.length 0 (-1) (by omega) (by omega) (.inl ⟨rfl, fun j hj => by omega⟩)).succ 0 fun k _ hk => ?_
    · have : pick (pk ks) (rem ks ps) = none := (pick_none (pk ks)).2 fun xs hx => by
        obtain ⟨i, hi, rfl⟩ := List.getElem_of_mem hx
        rw [rem_len] at hi
        have h1 := rem_get ks ps hi
        rw [List.getElem?_eq_getElem (by rw [rem_len]; exact hi)] at h1
        injection h1 with h1
        rw [h1]
        exact rowAt_nil ks (hn i hi)
      simp [mergeF, this]
    · have hrg : (rem ks ps)[g]? = some (mk54 g (pos ps g) :: rowAt ks g (pos ps g + 1)) := by rw [rem_get ks ps hg, ← rowAt_cons ks hgp]
      have hpick : pick (pk ks) (rem ks ps) = some (mk54 g (pos ps g)) := pick_at (pk ks) hrg fun j z zs hj => by
        have hjl : j < ks.length := by have := (List.getElem?_eq_some_iff.1 hj).1; rwa [rem_len] at this
        rw [rem_get ks ps hjl] at hj
        injection hj with hj
        have hjp : pos ps j < ln ks j := by
          apply Classical.byContradiction
          intro h
          rw [rowAt_nil ks (Nat.not_lt.1 h)] at hj
          cases hj
        rw [rowAt_cons ks hjp] at hj
        injection hj with hj _
        rw [← hj, pk_mk, pk_mk]
        exact hmin j hjl hjp
      obtain ⟨g2, e2, hm, htt⟩ := merge_round (key := pk ks) (f + 1) ht hrg hpick
      obtain rfl : g2 = f := by omega
      rw [pk_mk] at hm htt
      have hsp : ∀ i, i < ks.length → pos (sp ks ps (ky ks g (pos ps g)) ks.length) i ≤ ln ks i := fun i hi => by
        rw [sp_get ks ps _ _ hi]
        have := hle i hi
        split
        · rename_i h; omega
        · exact this
      have hnx := ih (sp ks ps (ky ks g (pos ps g)) ks.length) (out ++ [mk54 g (pos ps g)]) (sp_len ks ps _ _) (fun i => by
          by_cases hi : i < ks.length
          · exact Nat.le_trans (hsp i hi) (hs.len i)
          · unfold pos; rw [List.getD_eq_getElem?_getD, List.getElem?_eq_none (by rw [sp_len]; omega)]; exact Nat.zero_le _) hsp (by rw [rem_step]; exact htt) (by rw [List.length_append, List.length_singleton]; omega)
      rw [rem_step] at hnx
      rw [hm]
      have e : out ++ mk54 g (pos ps g) :: mergeF (pk ks) g2 (MergeL.step (pk ks) (ky ks g (pos ps g)) (rem ks ps)) = (out ++ [mk54 g (pos ps g)]) ++ mergeF (pk ks) g2 (MergeL.step (pk ks) (ky ks g (pos ps g)) (rem ks ps)) := by simp
      rw [e]
      have := ev_l2 hs hl hp (ky ks g (pos ps g)) _ _ hnx ks.length 0 (by omega) (by omega)
      rw [sp_zero ks ps _ hl] at this
      exact this
    · simp only [inclineref13_Merge.l0]
      exact hk
def places (ks : List (List Int)) : List S54 := mergeL (pk ks) (rem ks (List.replicate ks.length 0))
theorem refMerge_ev (hs : Small ks) (ht : total (rem ks (List.replicate ks.length 0)) ≤ 1048576) : EvR (fun k => inclineref13_Merge.f k ks) (places ks) := by
  have h := ev_l0 hs (total (rem ks (List.replicate ks.length 0))) (List.replicate ks.length 0) [] (by simp) (fun i => by
    unfold pos; rw [List.getD_eq_getElem?_getD, List.getElem?_replicate]; split <;> simp) (fun i hi => by
    unfold pos; rw [List.getD_eq_getElem?_getD, List.getElem?_replicate]; split <;> simp) (Nat.le_refl _) (by simpa using ht)
  obtain ⟨K, hK⟩ := h
  refine ⟨K, fun k hk => ?_⟩
  have hn := hs.n
  show inclineref13_Merge.f k ks = _
  unfold inclineref13_Merge.f
  rw [if_pos (by omega), if_pos (by omega), Int.toNat_natCast]
  have e : ints (List.replicate ks.length 0) = List.replicate ks.length (0 : Int) := by simp [ints]
  rw [← e]
  have := hK k hk
  simpa [places, mergeL] using this
end
end Go.Proofs.Ytojbfjfjhfnopaa.Pure
end

section
/- The reference's Entries is the merge. -/
namespace Go.Proofs.Ytojbfjfjhfnopaa.MergeL
set_option linter.unusedVariables false
section
variable {α β : Type} {ka : α → Int} {kb : β → Int} {φ : α → β}
theorem pick_map {rem : List (List α)} (h : ∀ xs ∈ rem, ∀ x ∈ xs, kb (φ x) = ka x) : pick kb (rem.map (List.map φ)) = (pick ka rem).map φ ∧ ∀ y, pick ka rem = some y → kb (φ y) = ka y := by
  induction rem with
  | nil => exact ⟨rfl, fun y h => by simp [pick] at h⟩
  | cons xs r ih =>
    obtain ⟨h1, h2⟩ := ih (fun ys hy => h ys (List.mem_cons_of_mem _ hy))
    cases xs with
    | nil => exact ⟨by simpa [pick] using h1, fun y hy => h2 y (by simpa [pick] using hy)⟩
    | cons x t =>
      have hx := h (x :: t) List.mem_cons_self x List.mem_cons_self
      simp only [List.map_cons, pick, h1]
      cases hp : pick ka r with
      | none =>
        refine ⟨rfl, fun y hy => ?_⟩
        simp only [Option.some.injEq] at hy
        subst hy; exact hx
      | some z =>
        have hz := h2 z hp
        simp only [Option.map_some, hz, hx]
        refine ⟨by split <;> rfl, fun y hy => ?_⟩
        split at hy <;> (injection hy with hy; subst hy; assumption)
theorem step_map {rem : List (List α)} (h : ∀ xs ∈ rem, ∀ x ∈ xs, kb (φ x) = ka x) (k : Int) : step kb k (rem.map (List.map φ)) = (step ka k rem).map (List.map φ) := by
  unfold step
  rw [List.map_map, List.map_map]
  refine List.map_congr_left fun xs hx => ?_
  cases xs with
  | nil => rfl
  | cons x t =>
    have := h (x :: t) hx x List.mem_cons_self
    simp only [Function.comp, List.map_cons, drop1, this]
    split <;> rfl
theorem step_mem {rem : List (List α)} {k : Int} : ∀ xs ∈ step ka k rem, ∀ x ∈ xs, ∃ ys ∈ rem, x ∈ ys := fun xs hx x hxx => by
  obtain ⟨ys, hy, rfl⟩ := List.mem_map.1 hx
  refine ⟨ys, hy, ?_⟩
  cases ys with
  | nil => exact hxx
  | cons y t =>
    simp only [drop1] at hxx
    split at hxx
    · exact List.mem_cons_of_mem _ hxx
    · exact hxx
theorem mergeF_map (f : Nat) {rem : List (List α)} (h : ∀ xs ∈ rem, ∀ x ∈ xs, kb (φ x) = ka x) : mergeF kb f (rem.map (List.map φ)) = (mergeF ka f rem).map φ := by
  induction f generalizing rem with
  | zero => rfl
  | succ f ih =>
    obtain ⟨h1, h2⟩ := pick_map h
    simp only [mergeF, h1]
    cases hp : pick ka rem with
    | none => rfl
    | some y =>
      simp only [Option.map_some, List.map_cons]
      rw [h2 y hp, step_map h, ih (fun xs hx x hxx => by
        obtain ⟨ys, hy, hyy⟩ := step_mem xs hx x hxx
        exact h ys hy x hyy)]
theorem pick_mem {rem : List (List α)} {y : α} (h : pick ka rem = some y) : ∃ xs ∈ rem, y ∈ xs := by
  induction rem generalizing y with
  | nil => simp [pick] at h
  | cons xs r ih =>
    cases xs with
    | nil =>
      obtain ⟨ys, hy, h2⟩ := ih (by simpa [pick] using h)
      exact ⟨ys, List.mem_cons_of_mem _ hy, h2⟩
    | cons x t =>
      simp only [pick] at h
      cases hp : pick ka r with
      | none =>
        rw [hp] at h
        simp only [Option.some.injEq] at h
        subst h
        exact ⟨_, List.mem_cons_self, List.mem_cons_self⟩
      | some z =>
        rw [hp] at h
        simp only at h
        split at h
        · injection h with h
          subst h
          obtain ⟨ys, hy, h2⟩ := ih hp
          exact ⟨ys, List.mem_cons_of_mem _ hy, h2⟩
        · injection h with h
          subst h
          exact ⟨_, List.mem_cons_self, List.mem_cons_self⟩
theorem mergeF_mem (f : Nat) {rem : List (List α)} {x : α} (h : x ∈ mergeF ka f rem) : ∃ xs ∈ rem, x ∈ xs := by
  induction f generalizing rem with
  | zero => simp [mergeF] at h
  | succ f ih =>
    simp only [mergeF] at h
    cases hp : pick ka rem with
    | none => rw [hp] at h; cases h
    | some y =>
      rw [hp] at h
      rcases List.mem_cons.1 h with h | h
      · subst h; exact pick_mem hp
      · obtain ⟨ys, hy, h2⟩ := ih h
        exact step_mem ys hy x h2
end
end Go.Proofs.Ytojbfjfjhfnopaa.MergeL
namespace Go.Proofs.Ytojbfjfjhfnopaa.Pure
open Go.RowKit Go.Proofs.Ytojbfjfjhfnopaa.G Go.Proofs.YtojbfjfjhfnopaaW.PrintWords Go.Proofs.YtojbfjfjhfnopaaW.PrintLast
open MergeL
set_option linter.unusedVariables false
section
variable (l : List (List S32))
def phi (p : S54) : S32 := rd_T32 (rd_L3 l p.f0) p.f1
abbrev kss : List (List Int) := l.map keysOf
variable {l}
theorem kss_ln {i : Nat} (hi : i < l.length) : ln (kss l) i = (l[i]).length := by
  unfold ln kss
  rw [List.getD_eq_getElem?_getD, List.getElem?_map, List.getElem?_eq_getElem hi]
  simp [keysOf]
theorem phi_mk {i j : Nat} (hi : i < l.length) (hj : j < (l[i]).length) : phi l (mk54 i j) = l[i][j] := by
  unfold phi mk54
  rw [rd_L3_get l i hi, rd_get _ _ hj]
theorem key_phi {i j : Nat} (hi : i < l.length) (hj : j < (l[i]).length) : (phi l (mk54 i j)).f0 = pk (kss l) (mk54 i j) := by
  rw [phi_mk hi hj, pk_mk]
  have e : (kss l).getD i [] = keysOf l[i] := by
    unfold kss
    rw [List.getD_eq_getElem?_getD, List.getElem?_map, List.getElem?_eq_getElem hi]
    rfl
  unfold ky
  rw [e]
  unfold keysOf
  rw [List.getD_eq_getElem?_getD, List.getElem?_map, List.getElem?_eq_getElem hj]
  rfl
theorem rem0 : (rem (kss l) (List.replicate (kss l).length 0)).map (List.map (phi l)) = l := by
  apply List.ext_getElem?
  intro i
  by_cases hi : i < l.length
  · rw [List.getElem?_map, rem_get (kss l) _ (by simpa using hi), List.getElem?_eq_getElem hi]
    have e : pos (List.replicate (kss l).length 0) i = 0 := by unfold pos; rw [List.getD_eq_getElem?_getD, List.getElem?_replicate]; split <;> rfl
    rw [e]
    show some ((rowAt (kss l) i 0).map (phi l)) = _
    congr 1
    unfold rowAt
    rw [List.drop_zero, List.map_map, kss_ln hi]
    apply List.ext_getElem
    · simp
    · intro j h1 h2
      rw [List.getElem_map, List.getElem_range]
      exact phi_mk hi h2
  · rw [List.getElem?_eq_none (by rw [List.length_map, rem_len]; simp; omega), List.getElem?_eq_none (by omega)]
theorem rem0_mem {p : S54} {xs : List S54} (hx : xs ∈ rem (kss l) (List.replicate (kss l).length 0)) (hp : p ∈ xs) : ∃ i j : Nat, ∃ hi : i < l.length, p = mk54 i j ∧ j < (l[i]).length := by
  unfold rem at hx
  obtain ⟨i, hi, rfl⟩ := List.mem_map.1 hx
  have hil : i < l.length := by have := List.mem_range.1 hi; simpa using this
  unfold rowAt at hp
  obtain ⟨j, hj, rfl⟩ := List.mem_map.1 hp
  have := List.mem_range.1 (List.mem_of_mem_drop hj)
  rw [kss_ln hil] at this
  exact ⟨i, j, hil, rfl, this⟩
theorem rem0_total : total (rem (kss l) (List.replicate (kss l).length 0)) = total l := by
  conv => rhs; rw [← rem0 (l := l)]
  unfold total
  rw [List.map_map]
  congr 1
  refine List.map_congr_left fun xs _ => ?_
  simp
theorem places_phi : (places (kss l)).map (phi l) = mergeL S32.f0 l := by
  unfold places mergeL
  rw [← mergeF_map (kb := S32.f0) _ (fun xs hx x hxx => by
    obtain ⟨i, j, hi, rfl, hj⟩ := rem0_mem hx hxx
    exact key_phi hi hj), rem0, rem0_total]
theorem places_mem {p : S54} (h : p ∈ places (kss l)) : ∃ i j : Nat, ∃ hi : i < l.length, p = mk54 i j ∧ j < (l[i]).length := by
  obtain ⟨xs, hx, hp⟩ := mergeF_mem _ h
  exact rem0_mem hx hp
theorem rd_T54_get (t : List S54) (i : Nat) (h : i < t.length) : rd_T54 t (i : Int) = t[i] := by
  simp [rd_T54, List.getD_eq_getElem?_getD, List.getElem?_eq_getElem h]
theorem ent_l2 (t : List S54) (ht : ∀ p ∈ t, ∃ i j : Nat, ∃ hi : i < l.length, p = mk54 i j ∧ j < (l[i]).length) (htl : t.length ≤ 1048576) : ∀ (d i : Nat), i ≤ t.length → t.length ≤ i + d → EvR (fun k => inclineref13_Entries.l2 k l t ((t.take i).map (phi l)) i) (t.map (phi l)) := by
  intro d
  induction d with
  | zero =>
    intro i hi hd
    obtain rfl : i = t.length := by omega
    refine EvR.now fun k => ?_
    simp only [inclineref13_Entries.l2]
    rw [if_neg (by omega), List.take_length]
  | succ d ih =>
    intro i hi hd
    by_cases hlt : i < t.length
    · have hnx := ih (i + 1) (by omega) (by omega)
      rw [List.take_succ_eq_append_getElem hlt, List.map_append] at hnx
      obtain ⟨a, b, ha, e, hb⟩ := ht _ (List.getElem_mem hlt)
      refine hnx.succ 0 fun k _ hk => ?_
      have hlen : ((t.take i).map (phi l)).length = i := by rw [List.length_map, List.length_take]; omega
      simp only [inclineref13_Entries.l2]
      rw [rd_T54_get t i hlt, e]
      have e0 : (mk54 a b).f0 = (a : Int) := rfl
      have e1 : (mk54 a b).f1 = (b : Int) := rfl
      rw [if_pos (by omega), if_pos (by omega), e0, e1, if_pos (by omega), if_pos (by omega), if_pos (by omega), rd_L3_get l a ha, if_pos (by omega), if_pos (by omega), w64 (by omega) (by omega)]
      rw [e] at hk
      simp only [List.map_cons, List.map_nil, phi, e0, e1, rd_L3_get l a ha] at hk
      exact hk
    · exact ih i hi (by omega)
theorem ent_l1 (hs : l.length + (l.map List.length).sum ≤ 1048576) (x3 : List (List Int)) (hx : x3.length ≤ 1048576) {i : Nat} (hi : i < l.length) (R : List S32) (hn : EvR (fun k => inclineref13_Entries.l0 k l (x3 ++ [keysOf l[i]]) ((i + 1 : Nat) : Int)) R) :
    ∀ (d j : Nat), j ≤ (l[i]).length → (l[i]).length ≤ j + d → EvR (fun k => inclineref13_Entries.l1 k l x3 i ((keysOf l[i]).take j) j) R := by
  have hsm : (l[i]).length ≤ 1048576 := by
    have h1 := len_le_total (List.getElem_mem hi)
    unfold total at h1
    omega
  have hkl : (keysOf l[i]).length = (l[i]).length := by simp [keysOf]
  intro d
  induction d with
  | zero =>
    intro j hj hd
    obtain rfl : j = (l[i]).length := by omega
    refine hn.succ 0 fun k _ hk => ?_
    simp only [inclineref13_Entries.l1]
    rw [if_pos (by omega), if_pos (by omega), rd_L3_get l i hi, if_neg (by omega), if_pos (by omega), w64 (by omega) (by omega), List.take_of_length_le (by omega)]
    exact hk
  | succ d ih =>
    intro j hj hd
    by_cases hlt : j < (l[i]).length
    · have hnx := ih (j + 1) (by omega) (by omega)
      rw [List.take_succ_eq_append_getElem (by omega)] at hnx
      have e : (keysOf l[i])[j]'(by omega) = (rd_T32 l[i] (j : Int)).f0 := by rw [rd_get _ _ hlt]; simp [keysOf]
      rw [e] at hnx
      refine hnx.succ 0 fun k _ hk => ?_
      have hle : ((keysOf l[i]).take j).length < 17592186044416 := by rw [List.length_take]; omega
      simp only [inclineref13_Entries.l1]
      rw [if_pos (by omega), if_pos (by omega), rd_L3_get l i hi, if_pos (by omega), if_pos (by omega), if_pos hle, w64 (by omega) (by omega)]
      exact hk
    · exact ih j hj (by omega)
theorem refEntries_ev (hs : l.length + (l.map List.length).sum ≤ 1048576) : EvR (fun k => inclineref13_Entries.f k l) (mergeL S32.f0 l) := by
  have hsmall : Small (kss l) := ⟨by simp; omega, fun i => by
    by_cases hi : i < l.length
    · rw [kss_ln hi]
      have h1 := len_le_total (List.getElem_mem hi)
      unfold total at h1
      omega
    · unfold ln; rw [List.getD_eq_getElem?_getD, List.getElem?_eq_none (by simp; omega)]; exact Nat.zero_le _⟩
  have htot : total (rem (kss l) (List.replicate (kss l).length 0)) ≤ 1048576 := by rw [rem0_total]; unfold total; omega
  have hpl : (places (kss l)).length ≤ 1048576 := Nat.le_trans (mergeL_length _) htot
  have hend : EvR (fun k => inclineref13_Entries.l0 k l (kss l) (l.length : Int)) (mergeL S32.f0 l) := by
    obtain ⟨K1, h1⟩ := refMerge_ev hsmall htot
    have h2 := ent_l2 (l := l) (places (kss l)) (fun p hp => places_mem hp) hpl (places (kss l)).length 0 (by omega) (by omega)
    rw [places_phi] at h2
    refine h2.succ K1 fun k hk0 hk => ?_
    simp only [inclineref13_Entries.l0]
    rw [if_neg (by omega), show inclineref13_Merge.f k (kss l) = _ from h1 k hk0]
    exact hk
  have h0 : ∀ (d i : Nat), i ≤ l.length → l.length ≤ i + d → EvR (fun k => inclineref13_Entries.l0 k l ((kss l).take i) i) (mergeL S32.f0 l) := by
    intro d
    induction d with
    | zero =>
      intro i hi hd
      obtain rfl : i = l.length := by omega
      rw [List.take_of_length_le (by simp)]
      exact hend
    | succ d ih =>
      intro i hi hd
      by_cases hlt : i < l.length
      · have hnx := ih (i + 1) (by omega) (by omega)
        rw [List.take_succ_eq_append_getElem (by simpa using hlt)] at hnx
        have e : (kss l)[i]'(by simpa using hlt) = keysOf l[i] := by simp [kss]
        rw [e] at hnx
        have h1 := ent_l1 hs ((kss l).take i) (by rw [List.length_take]; simp; omega) hlt _ hnx (l[i]).length 0 (by omega) (by omega)
        refine h1.succ 0 fun k _ hk => ?_
        simp only [inclineref13_Entries.l0]
        rw [if_pos (by omega)]
        exact hk
      · exact ih i hi (by omega)
  have := h0 l.length 0 (by omega) (by omega)
  simpa [inclineref13_Entries.f] using this
end
end Go.Proofs.Ytojbfjfjhfnopaa.Pure
end

section
/- The walk of MergeEntries. -/
namespace Go.Proofs.Ytojbfjfjhfnopaa.G
open Go.RowKit Go.Shelf RangeD Go.Proofs.YtojbfjfjhfnopaaW.PrintWords Go.Proofs.YtojbfjfjhfnopaaW.PrintLast Go.Proofs.YtojbfjfjhfnopaaW.PrintMore
open SeqE MergeL MergeE
set_option linter.unusedVariables false
/-- While what was answered is overwritten, and appended to: B is the world ahead of the answer. -/
structure SJ (B X : World) (va vw : Value) (n : Nat) (m : List S32) : Prop where
  below : Below B.heap.size B X
  want : ∃ base, X.ownsRow base 32 3 vw m.length (erow S32.f0 S32.f1 S32.f2 m)
  own : ∃ inner, X.ownsRow B.heap.size 32 3 va n inner
  sep : ∀ k, va.ownBlock = some k → B.heap.size ≤ k ∧ vw.ownBlock ≠ some k
section
variable {B X X1 : World} {va vw v8 : Value} {n : Nat} {m : List S32}
theorem SJ.step (h : SJ B X va vw n m) (hb : Below X.heap.size X X1) : SJ B X1 va vw n m :=
  ⟨h.below.trans (hb.mono h.below.size), h.want.imp fun _ hh => ownsRow_keep hh (fun k hk => hb.block k (hh.lt k hk).2), h.own.imp fun _ hh => ownsRow_keep hh (fun k hk => hb.block k (hh.lt k hk).2), h.sep⟩
theorem SJ.drawn (h : SJ B X va vw n m) (d : Nat) : SJ B (X.drewN d) va vw n m := h.step ⟨rfl, rfl, rfl, Nat.le_refl _, fun _ _ => rfl⟩
theorem SJ.set {g c : Nat} (h : SJ B X (.slice (some ⟨g, 0, none⟩) n c) vw n m) (j : Nat) (u : Value) : SJ B (X.setCell ⟨g, j, none⟩ u) (.slice (some ⟨g, 0, none⟩) n c) vw n m := by
  have hb := h.sep g (by simp [Value.ownBlock])
  have hsz : (X.setCell ⟨g, j, none⟩ u).heap.size = X.heap.size := by simp [World.setCell]
  refine ⟨⟨h.below.os, h.below.tape, h.below.output, by rw [hsz]; exact h.below.size, fun k hk => (Below.heap_setCell X ⟨g, j, none⟩ u k (by show k ≠ g; omega)).trans (h.below.block k hk)⟩, h.want.imp fun _ hh => ownsRow_keep hh (fun k hk => Below.heap_setCell X ⟨g, j, none⟩ u k (by show k ≠ g; intro e; subst e; exact hb.2 hk)), ?_, h.sep⟩
  obtain ⟨inner, hi⟩ := h.own
  exact ⟨_, ownsRow_set hi j u⟩
theorem SJ.form (h : SJ B X va vw n m) (hn : 0 < n) : ∃ g c, va = .slice (some ⟨g, 0, none⟩) n c := by
  obtain ⟨inner, hi⟩ := h.own
  obtain ⟨g, c, e, _⟩ := hi.form hn
  exact ⟨g, c, e⟩
theorem SJ.cells {g c : Nat} (h : SJ B X (.slice (some ⟨g, 0, none⟩) n c) vw n m) (j : Nat) (hj : j < n * 3) : (∃ u, X.cell? ⟨g, j, none⟩ = some u) ∧ X.frozen? ⟨g, j, none⟩ = false := by
  obtain ⟨inner, hi⟩ := h.own
  refine ⟨⟨inner[j]'(by rw [hi.1]; exact hj), ?_⟩, ?_⟩
  · rw [World.ownsRow.cellAt hi j hj, List.getElem?_eq_getElem]
  · rcases hi.2 with ⟨e, _⟩ | ⟨gg, cap2, cur, e, _, h2, _⟩
    · cases e
    · injection e with e _ _
      injection e with e
      injection e with e
      subst e
      simp [World.frozen?, h2]
/-- One more is appended. -/
theorem SJ.more {o : Obj} (h : SJ B X va vw n m) (hg : (X.alloc o).grownBy X1 va.ownBlock) : Below B.heap.size B X1 ∧ ∃ base, X1.ownsRow base 32 3 vw m.length (erow S32.f0 S32.f1 S32.f2 m) := by
  have hs := hg.size
  rw [World.size_alloc] at hs
  have hk : ∀ k, k < X.heap.size → va.ownBlock ≠ some k → X1.heap[k]? = X.heap[k]? := fun k hk hn => (hg.block k (by rw [World.size_alloc]; omega) (fun e => hn e.symm)).trans (Below.heap_alloc X o k hk)
  refine ⟨h.below.trans ⟨hg.os, hg.tape, hg.output, by omega, fun k hk2 => hk k (Nat.lt_of_lt_of_le hk2 h.below.size) (fun e => by have := (h.sep k e).1; omega)⟩, h.want.imp fun _ hh => ownsRow_keep hh (fun k hk2 => hk k (hh.lt k hk2).2 (fun e => (h.sep k e).2 hk2))⟩
theorem C_of_lent {g : Nat} {ls : List (List S32)} (h : Lent X g ls) (hl : ls.length ≤ 1048576) (hs : ∀ xs ∈ ls, xs.length ≤ 1048576) : Kd.C (Kd.slice 32 k32) X (some ⟨g, 0, none⟩) ls.length ls := by
  refine ⟨rfl, by omega, fun _ => ⟨⟨g, 0, none⟩, rfl, fun j xs hj => ?_⟩⟩
  obtain ⟨v, h1, ⟨b, cc, cur, rfl, h2, h3, _, _⟩⟩ := h j xs hj
  refine ⟨[.slice (some ⟨b, 0, none⟩) xs.length cc], rfl, ⟨some ⟨b, 0, none⟩, cc, rfl, by omega, C_of_cells h3 (by have := hs xs (List.mem_of_getElem? hj); omega)⟩, fun i u hu => ?_⟩
  match i, hu with
  | 0, hu =>
    simp only [List.getElem?_cons_zero, Option.some.injEq] at hu
    subst hu
    show X.cell? ((⟨g, 0, none⟩ : Addr).add (j * 1 + 0)) = _
    rw [Nat.mul_one, Nat.add_zero, add_plain]
    exact h1
  | i + 1, hu => simp at hu
theorem own_of_R {base : Nat} (h : Kd.R k32 32 X base (fun _ => True) va m) : X.ownsRow base 32 3 va m.length (erow S32.f0 S32.f1 S32.f2 m) := by
  obtain ⟨_, inner, ho, hr⟩ := h
  have e := reps_eq hr
  subst e
  exact ho
end
end Go.Proofs.Ytojbfjfjhfnopaa.G
namespace Go.Proofs.Ytojbfjfjhfnopaa
open Go.RowKit Go.Proofs.YtojbfjfjhfnopaaW.PrintWords Go.Proofs.YtojbfjfjhfnopaaW.PrintLast Go.Proofs.Ytojbfjfjhfnopaa.Reading G MergeL MergeE SeqE
set_option linter.unusedVariables false
set_option linter.unusedSimpArgs false
set_option maxHeartbeats 8000000 in
set_option maxRecDepth 1000000 in
theorem Walks.MergeEntries {w : World} (A0 : Option Addr) (c0 : Nat) (l0 : List (List S32)) (hC0 : Kd.C (Kd.slice 32 k32) w A0 l0.length l0) (hl0 : l0.length ≤ c0) (hg0 : (l0.length * 24 ≤ reach ∧ l0.length ≤ maxLen) ∧ ∀ xs ∈ l0, (xs.length * 24 ≤ reach ∧ xs.length ≤ maxLen) ∧ ∀ x ∈ xs, (Lit.int .u64 x.f0).wf = true ∧ (Lit.int .u64 x.f1).wf = true ∧ True)
    (hb : l0.length + (l0.map List.length).sum ≤ 1048576) :
    Calls Try.prog 3 #[.slice A0 l0.length c0] w fun e w' => e = .returned (.bool true) ∧ Below w.heap.size w w' := by
  have HC0 := Lib.hid hC0
  have HCL := Lib.hid hl0
  have HS : Hid (l0.length ≤ 1048576 ∧ ∀ xs ∈ l0, xs.length ≤ 1048576) := Lib.hid ⟨by omega, fun xs hx => by have h1 := len_le_total hx; unfold total at h1; omega⟩
  have HE := Lib.hid (Pure.entries_small l0 (by omega))
  obtain ⟨K, hK⟩ := Pure.refEntries_ev hb
  have HRE := Lib.hid (hK K (Nat.le_refl _))
  have hml := mergeL_length (key := S32.f0) l0
  obtain ⟨m, hm⟩ : ∃ m, mergeL S32.f0 l0 = m := ⟨_, rfl⟩
  rw [hm] at HE HRE hml
  have HLM : Hid (m.length ≤ 1048576) := Lib.hid (by unfold total at hml; omega)
  obtain ⟨i0, hi0, hz0, hz1, hz2⟩ := info_parts info32e
  clear hC0 hl0 hg0 hb hK hml hm
  go_enter Try.func3, Try.ntmps3
  go_upto_region 4 with (go_at_call 10; go_must (refine (inclinelaw13_shown.calls true _ rfl).mono ?_; rintro e W1 ⟨rfl, hb⟩; have B1 := Lib.hid hb; clear hb))
  go_upto_region 5 with (go_at_call 11; go_must (refine (copied_calls A0 c0 l0 W1 (Kd.C_below HC0.out B1.out) HS.out).mono ?_; rintro e W2 ⟨g, c, rfl, hcap, hlent, hb⟩; have B2 := Lib.hid (B1.out.trans (hb.mono B1.out.size)); have LN2 := Lib.hid hlent; have HCAP := Lib.hid hcap; clear hcap hlent hb))
  go_upto_region 6 with (go_at_call 12; go_must (refine (inclineref13_Entries.calls K A0 c0 l0 m W2 (Kd.C_below HC0.out B2.out) HCL.out HRE.out).mono ?_; rintro e W3 ⟨vw, rfl, h1, hb⟩; obtain ⟨Aw, cw, rfl⟩ := own_slice (own_of_R h1) rfl; have O3 := Lib.hid (own_of_R h1); have B3 := Lib.hid (B2.out.trans (hb.mono B2.out.size)); have LN := Lib.hid (LN2.out.below hb); clear h1 hb))
  go_upto_region 7 with (go_at_call 13; go_must (refine (merge_Entries.calls (some ⟨g, 0, none⟩) c l0 m W3 (C_of_lent LN.out HS.out.1 HS.out.2) HCAP.out HE.out).mono ?_; rintro e W4 ⟨va, rfl, h1, hb⟩; obtain ⟨Aa, ca, rfl⟩ := own_slice (own_of_R h1) rfl; have O4 := Lib.hid (own_of_R h1); have B4 := Lib.hid hb; clear h1 hb))
  have SI4 : Hid (SJ W3 W4 (.slice Aa m.length ca) (.slice Aw m.length cw) m.length m) := Lib.hid ⟨B4.out, ⟨_, ownsRow_keep O3.out (fun k hk => B4.out.block k (O3.out.lt k hk).2)⟩, ⟨_, O4.out⟩, fun k hk => ⟨(O4.out.lt k hk).1, fun e => by have h1 := (O4.out.lt k hk).1; have h2 := (O3.out.lt k e).2; omega⟩⟩
  have HA5 : Hid (RowLit.ok W4 (Aa, ca, m)) := Lib.hid (by
    have h := own_C O4.out
    exact ⟨h.1, h.2.1⟩)
  have HW5 : Hid (∀ X, SJ W3 X (.slice Aa m.length ca) (.slice Aw m.length cw) m.length m → RowLit.ok X (Aw, cw, m)) := Lib.hid (fun X h => by
    obtain ⟨_, hw⟩ := h.want
    have h := own_C hw
    exact ⟨h.1, h.2.1⟩)
  clear O3 O4 B4
  have tok1 : Hid True := Lib.hid trivial
  go_upto_region 9 with (first
    | (go_at_call 14; have _t := tok1; clear _t tok1; go_must (refine (same_rows _ (Aa, ca, m) (Aw, cw, m) HA5.out (HW5.out _ SI4.out) rfl (by show m.length ≤ _; have := HLM.out; omega)).mono ?_; rintro e W6 ⟨rfl, ⟨nd, hz⟩⟩; have SI6 : Hid (SJ W3 W6 (.slice Aa m.length ca) (.slice Aw m.length cw) m.length m) := Lib.hid (by rw [hz]; exact SI4.out.drawn _); clear hz))
    | (go_at_call 15; go_must (refine (asWere_calls g c A0 c0 l0 W6 (LN.out.below SI6.out.below) (Kd.C_below HC0.out (B3.out.trans (SI6.out.below.mono B3.out.size))) HS.out).mono ?_; rintro e W7 ⟨rfl, ⟨nd, hz⟩⟩; have SI7 : Hid (SJ W3 W7 (.slice Aa m.length ca) (.slice Aw m.length cw) m.length m) := Lib.hid (by rw [hz]; exact SI6.out.drawn _); clear hz)))
  go_wp2_with (fail)
  go_loopg [7] m.length (fun kq v7 w' => ∃ i : Nat, v7 = .int .i64 (i : Int) ∧ Hid (i ≤ m.length ∧ m.length ≤ kq + i) ∧ Hid (SJ W3 w' (.slice Aa m.length ca) (.slice Aw m.length cw) m.length m))
  case atStart => exact ⟨0, rfl, Lib.hid ⟨Nat.zero_le _, Nat.le_refl _⟩, SI7⟩
  case round =>
    obtain ⟨i, rfl, HI, SL⟩ := hrel
    by_cases hlt : i < m.length
    · have hd : decide ((i : Int) < (m.length : Int)) = true := decide_eq_true (Int.ofNat_lt.2 hlt)
      have hd2 : decide (i < m.length) = true := decide_eq_true hlt
      have hb1 : (0 : Int) ≤ (i : Int) := Int.natCast_nonneg i
      have hb2 : (i : Int) < (m.length : Int) := Int.ofNat_lt.2 hlt
      obtain ⟨ga, ca2, e⟩ := SL.out.form (by omega)
      injection e with e _ ec
      subst e ec
      obtain ⟨⟨u0, k0⟩, f0⟩ := SL.out.cells (i * 3) (by omega)
      obtain ⟨⟨u1, k1⟩, f1⟩ := SL.out.cells (i * 3 + 1) (by omega)
      obtain ⟨⟨u2, k2⟩, f2⟩ := SL.out.cells (i * 3 + 2) (by omega)
      obtain ⟨i2, hi2⟩ : ∃ i2, i + 1 = i2 := ⟨_, rfl⟩
      have hi3 : (i : Int) + 1 = (i2 : Int) := by rw [← hi2]; rfl
      have HI2 := Lib.hid (loop_nums hi2 hlt HI.out.2)
      have hw2 : IntKind.i64.wrap (i2 : Int) = (i2 : Int) := IntWalk.i64_in _ (by have := HI2.out.1; have := HLM.out; omega)
      clear hlt hi2
      go_wp2_with (fail)
      go_roundg (m.length - i2)
      case measure => exact HI2.out.2.2
      case rel => exact ⟨i2, rfl, Lib.hid ⟨HI2.out.1, HI2.out.2.1⟩, Lib.hid (((SL.out.set (i * 3) (.int .u64 9)).set (i * 3 + 1) (.int .u64 9)).set (i * 3 + 2) (.bool false))⟩
    · have hd : decide ((i : Int) < (m.length : Int)) = false := decide_eq_false (fun h => hlt (Int.ofNat_lt.1 h))
      have hd2 : decide (i < m.length) = false := decide_eq_false hlt
      obtain ⟨inner, hin⟩ := SL.out.own
      have HIN := Lib.hid hin
      obtain ⟨m1, hm1⟩ : ∃ m1, m.length + 1 = m1 := ⟨_, rfl⟩
      have HM1 := Lib.hid hm1
      have hb3 : (0 : Int) ≤ (m.length : Int) := Int.natCast_nonneg _
      have hb4 : (m.length : Int) < (m1 : Int) := by omega
      clear hlt hin hm1
      go_upto_region 14 with (at_builtin; go_must (refine wpList_append_own_at _ rfl (.tmp 39) (.tmp 41) 25 rfl W3.heap.size 32 i0 _ 3 24 Try.underlying25 hi0 hz0 hz1 hz2 rfl (by decide) (.slice Aa m.length ca) m.length inner (by rfl) (HIN.out.alloc _) ⟨wr.heap.size, 0, none⟩ 1 1 [.int .u64 8, .int .u64 0, .bool false] (by rfl) (by rfl) (World.news_of_block (cs := #[.int .u64 8, .int .u64 0, .bool false]) (t := 32) (fr := (0, 0)) (World.alloc_heap_new wr _)) (by intro u hu; simp only [List.mem_cons, List.not_mem_nil, or_false] at hu; rcases hu with hu | hu | hu <;> subst hu <;> rfl) (by have := HLM.out; unfold maxLen; omega) (by have := HLM.out; omega) (by rw [World.size_alloc]; exact Nat.le_succ_of_le SL.out.below.size) ?_; intro v8 w8 ho8 hg8 hn8 hat8; obtain ⟨g8, cg8, e8, _, _⟩ := ho8.form (Nat.succ_pos _); subst e8; have O8 := Lib.hid ho8; have G8 := Lib.hid hg8; rw [HM1.out] at O8 ⊢; clear ho8 hg8 hn8 hat8))
      have SM := Lib.hid (SL.out.more G8.out)
      have h88 : w8.cell? ⟨g8, m.length * 3, none⟩ = some (.int .u64 8) := by
        have hi := HIN.out.1
        have h1 := HM1.out
        rw [World.ownsRow.cellAt O8.out _ (by omega), List.getElem?_append_right (by omega), hi, Nat.sub_self]
        rfl
      have H88 := Lib.hid h88
      clear h88
      go_upto_region 15 with (go_at_call 13; go_must (refine (merge_Entries.calls (some ⟨g, 0, none⟩) c l0 m w8 (C_of_lent (LN.out.below SM.out.1) HS.out.1 HS.out.2) HCAP.out HE.out).mono ?_; rintro e W9 ⟨vb, rfl, h1, hb⟩; obtain ⟨Ab, cb, rfl⟩ := own_slice (own_of_R h1) rfl; have O9 := Lib.hid (own_of_R h1); have B9 := Lib.hid hb; clear h1 hb))
      have R9 : Hid (RowLit.ok W9 (Ab, cb, m) ∧ RowLit.ok W9 (Aw, cw, m)) := Lib.hid (by
        have h := own_C O9.out
        obtain ⟨_, hw⟩ := SM.out.2
        have h2 := own_C (ownsRow_keep hw (fun k hk => B9.out.block k (hw.lt k hk).2))
        exact ⟨⟨h.1, h.2.1⟩, ⟨h2.1, h2.2.1⟩⟩)
      have tok2 : Hid True := Lib.hid trivial
      go_wp2_with (first
        | (go_at_call 14; have _t := tok2; clear _t tok2; go_must (refine (same_rows _ (Ab, cb, m) (Aw, cw, m) R9.out.1 R9.out.2 rfl (by show m.length ≤ _; have := HLM.out; omega)).mono ?_; rintro e V6 ⟨rfl, ⟨nd, hz⟩⟩; have BV : Hid (Below w8.heap.size w8 V6) := Lib.hid (by rw [hz]; exact B9.out.trans ⟨rfl, rfl, rfl, Nat.le_refl _, fun _ _ => rfl⟩); clear hz))
        | (go_at_call 15; go_must (have b36 : Below W3.heap.size W3 V6 := SM.out.1.trans (BV.out.mono SM.out.1.size); refine (asWere_calls g c A0 c0 l0 V6 (LN.out.below b36) (Kd.C_below HC0.out (B3.out.trans (b36.mono B3.out.size))) HS.out).mono ?_; rintro e V7 ⟨rfl, ⟨nd, hz⟩⟩; have BV7 : Hid (Below w8.heap.size w8 V7) := Lib.hid (by rw [hz]; exact BV.out.trans ⟨rfl, rfl, rfl, Nat.le_refl _, fun _ _ => rfl⟩); have k8 : V7.cell? ⟨g8, m.length * 3, none⟩ = some (.int .u64 8) := Below.cell1 BV7.out H88.out; clear hz b36)))
      refine bodyPost_ret (results_tmp rfl _ _ _) rfl ?_
      exact ⟨rfl, B3.out.trans ((SM.out.1.trans (BV7.out.mono SM.out.1.size)).mono B3.out.size)⟩
end Go.Proofs.Ytojbfjfjhfnopaa
end

section
/- The walk of MergeGoes. -/
namespace Go.Proofs.Ytojbfjfjhfnopaa.G
open Go.RowKit Go.Shelf RangeD Go.Proofs.YtojbfjfjhfnopaaW.PrintWords Go.Proofs.YtojbfjfjhfnopaaW.PrintLast Go.Proofs.YtojbfjfjhfnopaaW.PrintMore
open SeqE MergeL MergeE HeapL HeapE
attribute [local go_sem] Oper.semAt_some
set_option linter.unusedVariables false
set_option linter.unusedSimpArgs false
theorem rows_of_CE {w : World} {A0 : Option Addr} {l0 : List (List S32)} (hr0 : Kd.C (Kd.slice 32 k32) w A0 l0.length l0) : ∃ g0 o0, (0 < l0.length → A0 = some ⟨g0, o0, none⟩) ∧ (∀ (i : Nat) (xs : List S32), l0[i]? = some xs → ∃ A c g o, w.cell? ⟨g0, o0 + i, none⟩ = some (.slice A xs.length c) ∧ (0 < xs.length → A = some ⟨g, o, none⟩) ∧ CellsAt S32.f0 S32.f1 S32.f2 w g o xs ∧ g < w.heap.size) := by
  by_cases h0 : 0 < l0.length
  · obtain ⟨ad, e, hc⟩ := hr0.2.2 h0
    have cells : ∀ (j : Nat) x, l0[j]? = some x → ∃ A c, w.cell? (ad.add j) = some (.slice A x.length c) ∧ Kd.C k32 w A x.length x := fun j x hj => by
      obtain ⟨c, _, ⟨A, c2, rfl, _, hK⟩, hcc⟩ := hc j x hj
      have := hcc 0 _ rfl
      refine ⟨A, c2, ?_, hK⟩
      simpa [Kd.slice] using this
    obtain ⟨A1, c1, h1, _⟩ := cells 0 _ (List.getElem?_eq_getElem h0)
    have hp := addr_plain h1
    have hlt := World.block_lt_of_cell? _ _ h1
    rw [hp] at hlt
    refine ⟨ad.block, ad.off, fun _ => ?_, fun i xs hi => ?_⟩
    · rw [e]
      have e2 : ad.add 0 = ad := by simp [Addr.add]
      rw [← e2, hp]
    · obtain ⟨A, c, q1, q2⟩ := cells i xs hi
      rw [addr_plain q1] at q1
      obtain ⟨g, o, q3, q4⟩ := lies_of_C q2
      by_cases hx : 0 < xs.length
      · exact ⟨A, c, g, o, q1, fun h => (q3 h).1, q4, (q3 hx).2⟩
      · exact ⟨A, c, ad.block, 0, q1, fun h => absurd h hx, fun j x hj => absurd (List.getElem?_eq_some_iff.1 hj).1 (by omega), hlt⟩
  · exact ⟨0, 0, fun h => absurd h h0, fun i xs hi => absurd (List.getElem?_eq_some_iff.1 hi).1 (by omega)⟩
/-- What lies below all that the ranges lay: w is the world at the call; e is how many things are taken. -/
structure Grd (w : World) (b3 b6 b9 e : Nat) (Aw : Option Addr) (cw : Nat) (m : List S32) (lb : Array Value) (D : Blocks) (Z : World) : Prop where
  below : Below w.heap.size w Z
  c3 : Z.heap[b3]? = some (.cells #[.int .i64 (e : Int)] 3 (0, 0))
  c6 : Z.heap[b6]? = some (.cells #[.slice Aw m.length cw] 25 (0, 0))
  c9 : Z.heap[b9]? = some (.cells #[.func (.func 44) #[] lb] 36 (0, 0))
  want : ∃ base, Z.ownsRow base 32 3 (.slice Aw m.length cw) m.length (erow S32.f0 S32.f1 S32.f2 m)
  it : ItOk S32.f0 S32.f1 S32.f2 ⟨44, lb, D, m⟩ Z
section
variable {w : World} {b3 b6 b9 e : Nat} {Aw : Option Addr} {cw : Nat} {m : List S32} {lb : Array Value} {D : Blocks} {Z Z1 : World}
theorem Grd.step (h : Grd w b3 b6 b9 e Aw cw m lb D Z) (hb : Below Z.heap.size Z Z1) : Grd w b3 b6 b9 e Aw cw m lb D Z1 :=
  ⟨h.below.trans (hb.mono h.below.size), (hb.block _ (Array.getElem?_eq_some_iff.1 h.c3).1).trans h.c3, (hb.block _ (Array.getElem?_eq_some_iff.1 h.c6).1).trans h.c6, (hb.block _ (Array.getElem?_eq_some_iff.1 h.c9).1).trans h.c9,
    h.want.imp fun _ hh => ownsRow_keep hh (fun k hk => hb.block k (hh.lt k hk).2), h.it.below hb⟩
theorem Grd.k3 (h : Grd w b3 b6 b9 e Aw cw m lb D Z) : Z.cell? ⟨b3, 0, none⟩ = some (.int .i64 (e : Int)) := by rw [cell_of_row Z _ 0 _ _ _ h.c3]; rfl
theorem Grd.k6 (h : Grd w b3 b6 b9 e Aw cw m lb D Z) : Z.cell? ⟨b6, 0, none⟩ = some (.slice Aw m.length cw) := by rw [cell_of_row Z _ 0 _ _ _ h.c6]; rfl
theorem Grd.k9 (h : Grd w b3 b6 b9 e Aw cw m lb D Z) : Z.cell? ⟨b9, 0, none⟩ = some (.func (.func 44) #[] lb) := by rw [cell_of_row Z _ 0 _ _ _ h.c9]; rfl
end
/-- The cell of 'leave' alone was turned. -/
structure Turn3 (Y Z : World) (b3 : Nat) (v : Value) : Prop where
  os : Z.os = Y.os
  tape : Z.tape = Y.tape
  output : Z.output = Y.output
  size : Z.heap.size = Y.heap.size
  same : ∀ k, k ≠ b3 → Z.heap[k]? = Y.heap[k]?
  at_ : Z.heap[b3]? = some (.cells #[v] 3 (0, 0))
theorem Turn3.set {Y Z : World} {b3 : Nat} {v : Value} (h : Turn3 Y Z b3 v) (u : Value) : Turn3 Y (Z.setCell ⟨b3, 0, none⟩ u) b3 u :=
  ⟨h.os, h.tape, h.output, by simp [World.setCell]; exact h.size, fun k hk => (Below.heap_setCell Z ⟨b3, 0, none⟩ u k hk).trans (h.same k hk), (setCell_blk h.at_ u).trans rfl⟩
theorem Turn3.refl {Y : World} {b3 : Nat} {v : Value} (h : Y.heap[b3]? = some (.cells #[v] 3 (0, 0))) : Turn3 Y Y b3 v := ⟨rfl, rfl, rfl, rfl, fun _ _ => rfl, h⟩
theorem Turn3.k {Y Z : World} {b3 : Nat} {v : Value} (h : Turn3 Y Z b3 v) : Z.cell? ⟨b3, 0, none⟩ = some v ∧ Z.frozen? ⟨b3, 0, none⟩ = false := ⟨by rw [cell_of_row Z _ 0 _ _ _ h.at_]; rfl, by simp [World.frozen?, h.at_]⟩
theorem Turn3.cell {Y Z : World} {b3 : Nat} {v u : Value} (h : Turn3 Y Z b3 v) {b j : Nat} (hb : b ≠ b3) (hc : Y.cell? ⟨b, j, none⟩ = some u) : Z.cell? ⟨b, j, none⟩ = some u := (World.cell?_of_block (h.same b hb)).trans hc
theorem RowLit.ok.drawn {W : World} {r : RowLit} (h : RowLit.ok W r) (d : Nat) : RowLit.ok (W.drewN d) r := h.below ⟨rfl, rfl, rfl, Nat.le_refl _, fun _ _ => rfl⟩
theorem same_cut {W : World} {A A' : Option Addr} {c c' n : Nat} {l : List S32} (hn : l.length = n) (h1 : RowLit.ok W (A, c, l)) (h2 : RowLit.ok W (A', c', l)) (hl : n ≤ 10485760) (d : Nat) :
    Calls Try.prog 14 #[.slice A n c, .slice A' n c'] (W.drewN d) fun e w' => e = .returned (.bool true) ∧ ∃ k, w' = W.drewN (d + k) := by
  subst hn
  refine (same_rows (W.drewN d) (A, c, l) (A', c', l) (h1.drawn d) (h2.drawn d) rfl hl).mono ?_
  rintro e w' ⟨rfl, k, rfl⟩
  exact ⟨rfl, k, World.drewN_drewN ..⟩
theorem take_ok {W : World} {A : Option Addr} {c n : Nat} {l : List S32} {base : Nat} (h : W.ownsRow base 32 3 (.slice A n c) l.length (erow S32.f0 S32.f1 S32.f2 l)) (q : Nat) : RowLit.ok W (A, c, l.take q) := by
  obtain ⟨h1, h2, _⟩ := own_C h
  have hl : (l.take q).length ≤ l.length := by rw [List.length_take]; omega
  refine ⟨⟨rfl, Nat.le_trans hl h1.2.1, fun hp => ?_⟩, Nat.le_trans hl h2⟩
  have hp2 : 0 < (l.take q).length := hp
  obtain ⟨ad, e, hc⟩ := h1.2.2 (by omega)
  refine ⟨ad, e, fun j p hj => hc j p ?_⟩
  rw [List.getElem?_take] at hj
  split at hj
  · exact hj
  · cases hj
/-- The inner count, and whether all went well, in their cells. -/
def E2 (a14 a15 : Nat) (v : Nat) : List (Nat × Obj) := [(a14, .cells #[.int .i64 (v : Int)] 3 (0, 0)), (a15, .cells #[.bool true] 4 (0, 0))]
def inn (e n k : Nat) : Nat := if 1 ≤ e ∧ e ≤ k then n else 0
def LeftAt (X : World) (base e : Nat) (xs : List S32) (T : Blocks) (W : World) : Prop := ∃ pre x, xs = pre ++ [x] ∧ pre.length = e ∧ GJ S32.f0 S32.f1 S32.f2 X base (base + 1) [] pre T W
set_option maxHeartbeats 8000000 in
set_option maxRecDepth 1000000 in
theorem goes_walk {w : World} (A0 : Option Addr) (c0 : Nat) (ls : List (List S32)) (lv : Int) (hC0 : Kd.C (Kd.slice 32 k32) w A0 ls.length ls) (hcap : ls.length ≤ c0) (hlv : -9223372036854775808 ≤ lv ∧ lv ≤ 9223372036854775807) (hb : ls.length + (ls.map List.length).sum ≤ 1048576) :
    Calls Try.prog 4 #[.slice A0 ls.length c0, .int .i64 lv] w fun e w' => e = .returned (.bool true) ∧ Below w.heap.size w w' := by
  obtain ⟨g0, o0, hA, hrows⟩ := rows_of_CE hC0
  have HA := Lib.hid hA
  have HRW := Lib.hid hrows
  have HC0 := Lib.hid hC0
  have HCP := Lib.hid hcap
  have HLV := Lib.hid hlv
  have HS : Hid (ls.length ≤ 1048576 ∧ ∀ (i : Nat) xs, ls[i]? = some xs → xs.length ≤ 1048576) := Lib.hid ⟨by omega, fun i xs hx => by have h1 := MergeL.len_le_total (List.mem_of_getElem? hx); unfold total at h1; omega⟩
  obtain ⟨K, hK⟩ := Pure.refEntries_ev hb
  have hml := mergeL_length (key := S32.f0) ls
  obtain ⟨m, hm⟩ : ∃ m, mergeL S32.f0 ls = m := ⟨_, rfl⟩
  have HRE : Hid (inclineref13_Entries.f K ls = some m) := Lib.hid (by rw [← hm]; exact hK K (Nat.le_refl _))
  have HM := Lib.hid hm
  have HLM : Hid (m.length ≤ 1048576) := Lib.hid (by rw [hm] at hml; unfold total at hml; omega)
  obtain ⟨i36, hi36, hz360, hz361, hz362⟩ := info_parts info36
  obtain ⟨i32, hi32, hz320, hz321, hz322⟩ := info_parts info32e
  clear hC0 hcap hlv hA hrows hb hK hml hm
  refine (callsIn_wide (n := 0)).1 (callsIn_of_wp_marks Try.func4 rfl trivial (wpIn_wide.2 ?_) rfl)
  simp only [Try.ntmps4, List.size_toArray, List.length_cons, List.length_nil, Nat.reduceAdd, Nat.reduceSub, Array.replicate_succ, Array.replicate_zero, List.push_toArray, List.append_toArray, List.nil_append, List.cons_append]
  go_upto_region 4 with (go_at_call 10; go_must (refine (inclinelaw13_shown.calls true _ rfl).mono ?_; rintro e B1 ⟨rfl, hb⟩; have HB1 := Lib.hid hb; clear hb))
  have hw1 : Hid (Below w.heap.size w B1) := Lib.hid (((Below.refl _ w).alloc (Nat.le_refl _) _).trans (HB1.out.mono (by simp)))
  have hc31 : Hid (B1.heap[w.heap.size]? = some (.cells #[.int .i64 lv] 3 (0, 0))) := Lib.hid ((HB1.out.block (w.heap.size) (by simp)).trans (World.alloc_heap_new w _))
  go_upto_region 5 with (go_at_call 12; go_must (refine (inclineref13_Entries.calls K A0 c0 ls m B1 (Kd.C_below HC0.out hw1.out) HCP.out HRE.out).mono ?_; rintro e W3 ⟨vw, rfl, h1, hb⟩; obtain ⟨Aw, cw, rfl⟩ := own_slice (own_of_R h1) rfl; have O3 := Lib.hid (own_of_R h1); have HB3 := Lib.hid hb; clear h1 hb))
  obtain ⟨b6, hb6⟩ : ∃ b6, W3.heap.size = b6 := ⟨_, rfl⟩
  obtain ⟨B, hB⟩ : ∃ B, W3.alloc (.cells #[.slice Aw m.length cw] 25) = B := ⟨_, rfl⟩
  have hWB : Below W3.heap.size W3 B := by rw [← hB]; exact (Below.refl _ W3).alloc (Nat.le_refl _) _
  have hc6 : Hid (B.heap[b6]? = some (.cells #[.slice Aw m.length cw] 25 (0, 0)) ∧ b6 < B.heap.size) := Lib.hid (by
    have h : B.heap[b6]? = some (.cells #[.slice Aw m.length cw] 25 (0, 0)) := by rw [← hB, ← hb6]; exact World.alloc_heap_new W3 _
    exact ⟨h, (Array.getElem?_eq_some_iff.1 h).1⟩)
  have hwB : Hid (Below w.heap.size w B) := Lib.hid (hw1.out.trans ((HB3.out.trans (hWB.mono HB3.out.size)).mono hw1.out.size))
  have hBB : Below B1.heap.size B1 B := HB3.out.trans (hWB.mono HB3.out.size)
  have hc3 : Hid (B.heap[w.heap.size]? = some (.cells #[.int .i64 lv] 3 (0, 0)) ∧ w.heap.size < B.heap.size) := Lib.hid (by
    have h := (hBB.block w.heap.size (Array.getElem?_eq_some_iff.1 hc31.out).1).trans hc31.out
    exact ⟨h, (Array.getElem?_eq_some_iff.1 h).1⟩)
  have hOW : Hid (∃ base, B.ownsRow base 32 3 (.slice Aw m.length cw) m.length (erow S32.f0 S32.f1 S32.f2 m)) := Lib.hid ⟨_, ownsRow_keep O3.out (fun k hk => hWB.block k (O3.out.lt k hk).2)⟩
  have h36 : Hid (b6 ≠ w.heap.size) := Lib.hid (fun e => by have h1 := hc3.out.1; have h2 := hc6.out.1; rw [e, h1] at h2; injection h2 with h2; injection h2 with _ h2 _; exact absurd h2 (by decide))
  rw [hb6, hB]
  clear hWB hBB hB hb6 O3 HB3 HB1 hc31 hw1
  have HW0 : Hid (LE S32.f0 S32.f1 S32.f2 w.heap.size B (B.alloc (.cells #[] 36)) (.slice (some ⟨B.heap.size, 0, none⟩) 0 0) 0 ls []) := Lib.hid
    ⟨(Below.refl _ B).alloc (Nat.le_refl _) _, World.ownsRow_lit (base := B.heap.size) (e := 36) (size := 1) B #[] 0 (Nat.le_refl _) (by unfold maxLen; omega) rfl, ⟨[], rfl, fun k it h => by simp at h⟩⟩
  go_wp2_with (fail)
  go_loopg [7, 8] ls.length (fun kq v7 v8 w' => ∃ (i g7 c7 : Nat) (vs : List Value), v8 = .int .i64 (i : Int) ∧ v7 = .slice (some ⟨g7, 0, none⟩) i c7 ∧ Hid (i ≤ ls.length ∧ ls.length ≤ kq + i) ∧ Hid (LE S32.f0 S32.f1 S32.f2 w.heap.size B w' (.slice (some ⟨g7, 0, none⟩) i c7) i ls vs))
  case atStart => exact ⟨0, B.heap.size, 0, [], rfl, rfl, Lib.hid ⟨Nat.zero_le _, Nat.le_refl _⟩, HW0⟩
  case round =>
    obtain ⟨i, g7, c7, vs, rfl, rfl, HI, HW⟩ := hrel
    by_cases hlt : i < ls.length
    · have hd : decide ((i : Int) < (ls.length : Int)) = true := decide_eq_true (Int.ofNat_lt.2 hlt)
      have hd2 : decide (i < ls.length) = true := decide_eq_true hlt
      have hb1 : (0 : Int) ≤ (i : Int) := Int.natCast_nonneg i
      have hb2 : (i : Int) < (ls.length : Int) := Int.ofNat_lt.2 hlt
      obtain rfl := HA.out (by omega)
      obtain ⟨xs, hxs⟩ : ∃ xs, ls[i]? = some xs := ⟨_, List.getElem?_eq_getElem hlt⟩
      obtain ⟨A, cA, g, o, r0, r1, r2, r3⟩ := HRW.out i xs hxs
      have r0 := Below.cell1 (hwB.out) r0
      have r2 : CellsAt S32.f0 S32.f1 S32.f2 B g o xs := r2.keep _ _ _ (hwB.out.block g r3)
      have r4 : g ≠ w.heap.size := Nat.ne_of_lt r3
      have r3 : g < B.heap.size := Nat.lt_of_lt_of_le r3 hwB.out.size
      have rc : wr.cell? ⟨g0, o0 + i, none⟩ = some (.slice A xs.length cA) := Below.cell1 HW.out.below r0
      have HXS := Lib.hid hxs
      have HLX := Lib.hid (HS.out.2 i xs hxs)
      have HR := Lib.hid (And.intro r1 (And.intro r2 (And.intro r3 r4)))
      obtain ⟨i2, hi2⟩ : ∃ i2, i + 1 = i2 := ⟨_, rfl⟩
      have hi3 : (i : Int) + 1 = (i2 : Int) := by rw [← hi2]; rfl
      have HI2 := Lib.hid (loop_nums hi2 hlt HI.out.2)
      have hw2 : IntKind.i64.wrap (i2 : Int) = (i2 : Int) := IntWalk.i64_in _ (by have := HI2.out.1; have := HS.out.1; omega)
      have HI3 := Lib.hid hi2
      have HIL : Hid (i + 1 ≤ 1048577) := Lib.hid (by have := HS.out.1; omega)
      clear r0 r1 r2 r3 r4 hxs hlt hi2
      go_wp2_with (first
        | (go_at_call 16; go_must (refine (listed_calls A xs.length cA wr).mono ?_; rintro e X1 ⟨rfl, hb, hn⟩; have HB1 := Lib.hid hb; have HN1 := Lib.hid hn; have HW1 := Lib.hid (HW.out.step hb); clear hb hn))
        | (at_builtin; go_must (refine wpList_append_own_at _ rfl (.tmp 30) (.tmp 36) 34 rfl B.heap.size 36 i36 _ 1 8 Try.underlying34 hi36 hz360 hz361 hz362 rfl (by decide) (.slice (some ⟨g7, 0, none⟩) i c7) i vs (by rfl) (HW1.out.row5.alloc _) ⟨X1.heap.size, 0, none⟩ 1 1 [.func (.func 42) #[] #[.pointer (some ⟨wr.heap.size, 0, none⟩)]] (by rfl) (by rfl) (World.news_of_block (cs := #[.func (.func 42) #[] #[.pointer (some ⟨wr.heap.size, 0, none⟩)]]) (t := 36) (fr := (0, 0)) (World.alloc_heap_new X1 _)) (by intro u hu; rw [List.mem_singleton] at hu; subst hu; rfl) (by have := HIL.out; unfold maxLen; omega) (by have := HIL.out; omega) (by rw [World.size_alloc]; exact Nat.le_succ_of_le HW1.out.below.size) ?_; intro v7' X2 ho5 hg5 hn5 hat5; obtain ⟨g7', c7', e5, _, _⟩ := ho5.form (Nat.succ_pos _); subst e5; have HW2 := Lib.hid (HW.out.more HXS.out HR.out.1 HR.out.2.1 HR.out.2.2.1 HR.out.2.2.2 HLX.out HB1.out HN1.out ho5 hg5); clear ho5 hg5 hn5 hat5)))
      rw [HI3.out] at HW2 ⊢
      go_roundg (ls.length - i2)
      case measure => exact HI2.out.2.2
      case rel => exact ⟨i2, g7', c7', _, rfl, rfl, Lib.hid ⟨HI2.out.1, HI2.out.2.1⟩, HW2⟩
    · have hd : decide ((i : Int) < (ls.length : Int)) = false := decide_eq_false (fun h => hlt (Int.ofNat_lt.1 h))
      have hd2 : decide (i < ls.length) = false := decide_eq_false hlt
      have hie : i = ls.length := Nat.le_antisymm HI.out.1 (Nat.not_lt.1 hlt)
      subst hie
      have HBT : Hid (wr.heap[w.heap.size]? = some (.cells #[.int .i64 lv] 3 (0, 0))) := Lib.hid ((HW.out.below.block _ hc3.out.2).trans hc3.out.1)
      have HMM : Hid (((mergeL S32.f0 ls).length + 1) * 24 ≤ 140737488355328) := Lib.hid (by rw [HM.out]; have := HLM.out; omega)
      clear hlt
      go_upto_region 11 with (go_at_call 17; go_must (refine (HW.out.merged HS.out.1 HBT.out HMM.out).mono ?_; rintro e Y3 ⟨lb, D, rfl, hb, hit, hD⟩; have HY3 := Lib.hid hb; have HIT := Lib.hid hit; have HND := Lib.hid hD; have hnil : ∀ W, (binOp .eql 36 (.func (.func 44) #[] lb) .nilFunc).run Try.prog W = .ok (.bool false) W := (fun W => by kernel_rfl); clear hb hit hD))
      obtain ⟨b9, hb9⟩ : ∃ b9, Y3.heap.size = b9 := ⟨_, rfl⟩
      obtain ⟨Y, hY⟩ : ∃ Y, Y3.alloc (.cells #[.func (.func 44) #[] lb] 36) = Y := ⟨_, rfl⟩
      have hc9 : Y.heap[b9]? = some (.cells #[.func (.func 44) #[] lb] 36 (0, 0)) := by rw [← hY, ← hb9]; exact World.alloc_heap_new Y3 _
      have hYb : Below Y3.heap.size Y3 Y := by rw [← hY]; exact (Below.refl _ Y3).alloc (Nat.le_refl _) _
      have hBY : Below B.heap.size B Y := HW.out.below.trans ((HY3.out.trans (hYb.mono HY3.out.size)).mono HW.out.below.size)
      have hity := HIT.out.below hYb
      rw [HM.out] at hity
      have k9 : Y.cell? ⟨b9, 0, none⟩ = some (.func (.func 44) #[] lb) := by rw [cell_of_row Y _ 0 _ _ _ hc9]; rfl
      have hY3 : Y.heap[w.heap.size]? = some (.cells #[.int .i64 lv] 3 (0, 0)) := (hBY.block _ hc3.out.2).trans hc3.out.1
      have k3 : Y.cell? ⟨w.heap.size, 0, none⟩ = some (.int .i64 lv) := by rw [cell_of_row Y _ 0 _ _ _ hY3]; rfl
      have f3 : Y.frozen? ⟨w.heap.size, 0, none⟩ = false := by simp [World.frozen?, hY3]
      have HC9 := Lib.hid hc9
      have HC3 := Lib.hid hY3
      have HITY := Lib.hid hity
      have HBY := Lib.hid hBY
      have h39 : Hid (b9 ≠ w.heap.size) := Lib.hid (fun e => by rw [e, hY3] at hc9; injection hc9 with h2; injection h2 with _ h2 _; exact absurd h2 (by decide))
      rw [hb9, hY]
      clear hc9 hYb hBY hity hY3 hb9 hY HY3 HIT HW HBT HMM
      go_upto_if 43 with (fail)
      go_cut [] from 42 to 46 (fun wd => ∃ e0 : Nat, Hid ((e0 : Int) ≤ 9223372036854775807) ∧ Hid (Turn3 Y wd w.heap.size (.int .i64 (e0 : Int))))
      case first =>
        by_cases hneg : lv < 0
        · have hd3 : decide (lv < 0) = true := decide_eq_true hneg
          obtain ⟨e0, he0⟩ : ∃ e0 : Nat, -(lv + 1) = (e0 : Int) := ⟨(-(lv + 1)).toNat, by omega⟩
          have hw3 : IntKind.i64.wrap (lv + 1) = lv + 1 := IntWalk.i64_in _ (by have := HLV.out; omega)
          have hw4 : IntKind.i64.wrap (-(lv + 1)) = (e0 : Int) := by rw [he0]; exact IntWalk.i64_in _ (by have := HLV.out; omega)
          have HE0 : Hid ((e0 : Int) ≤ 9223372036854775807) := Lib.hid (by have := HLV.out; omega)
          have HT3 := Lib.hid ((Turn3.refl HC3.out).set (.int .i64 (e0 : Int)))
          have hw5 : wrap64 (lv + 1) = lv + 1 := by unfold wrap64; have := HLV.out; omega
          have hw6 : wrap64 (-(lv + 1)) = (e0 : Int) := by rw [he0]; unfold wrap64; have := HLV.out; omega
          clear hneg he0
          rw [hd3]
          clear hd3
          go_wp2_with (fail)
          go_meet
          case rel => exact ⟨e0, HE0, HT3⟩
        · have hd3 : decide (lv < 0) = false := decide_eq_false hneg
          obtain ⟨e0, he0⟩ : ∃ e0 : Nat, lv = (e0 : Int) := ⟨lv.toNat, by omega⟩
          have HE0 : Hid ((e0 : Int) ≤ 9223372036854775807) := Lib.hid (by have := HLV.out; omega)
          have HT3 := Lib.hid (Turn3.refl HC3.out)
          have HE := Lib.hid he0
          clear hneg he0
          rw [hd3]
          clear hd3
          go_wp2_with (fail)
          go_meet
          case rel => exact ⟨e0, HE0, by rw [← HE.out]; exact HT3⟩
      case rest =>
        obtain ⟨e0, HE0, HT3⟩ := hcut
        obtain ⟨k3', f3'⟩ := HT3.out.k
        have k9' : wc.cell? ⟨b9, 0, none⟩ = some (.func (.func 44) #[] lb) := HT3.out.cell h39.out k9
        have k6 : Y.cell? ⟨b6, 0, none⟩ = some (.slice Aw m.length cw) := Below.cell1 HBY.out (by rw [cell_of_row B _ 0 _ _ _ hc6.out.1]; rfl)
        have k6' : wc.cell? ⟨b6, 0, none⟩ = some (.slice Aw m.length cw) := HT3.out.cell h36.out k6
        clear k3 f3 k9 k6
        obtain ⟨n2, hn2⟩ : ∃ n2 : Nat, (m.length : Int) + 2 = (n2 : Int) := ⟨m.length + 2, by omega⟩
        have hn3 : wrap64 (n2 : Int) = (n2 : Int) := by unfold wrap64; have := HLM.out; omega
        have hn4 : IntKind.i64.wrap (n2 : Int) = (n2 : Int) := IntWalk.i64_in _ (by have := HLM.out; omega)
        have hn5 : (n2 : Int) ≠ 0 := by omega
        obtain ⟨e, he⟩ : ∃ e : Nat, e0 % n2 = e := ⟨_, rfl⟩
        have he2 : (e0 : Int) % (n2 : Int) = (e : Int) := by rw [← he]; rfl
        have HE : Hid (e ≤ m.length + 1) := Lib.hid (by have := Nat.mod_lt e0 (y := n2) (by omega); omega)
        clear he
        go_upto_region 16 with (fail)
        clear hn2 hn3 hn4 hn5 he2
        obtain ⟨u47, hu47⟩ : ∃ u47, Value.int .i64 (e0 : Int) = u47 := ⟨_, rfl⟩
        obtain ⟨u50, hu50⟩ : ∃ u50, Value.int .i64 (n2 : Int) = u50 := ⟨_, rfl⟩
        obtain ⟨u51, hu51⟩ : ∃ u51, Value.int .i64 ((e0 : Int) % (n2 : Int)) = u51 := ⟨_, rfl⟩
        rw [hu47, hu50, hu51]
        obtain ⟨Z, hZ⟩ : ∃ Z, wc.setCell ⟨w.heap.size, 0, none⟩ (.int .i64 (e : Int)) = Z := ⟨_, rfl⟩
        have hT : Turn3 Y Z w.heap.size (.int .i64 (e : Int)) := by rw [← hZ]; exact HT3.out.set _
        have hwY : Below w.heap.size w Y := hwB.out.trans (HBY.out.mono hwB.out.size)
        have HGZ : Hid (Grd w w.heap.size b6 b9 e Aw cw m lb D Z) := Lib.hid
          ⟨⟨hT.os.trans hwY.os, hT.tape.trans hwY.tape, hT.output.trans hwY.output, by rw [hT.size]; exact hwY.size, fun k hk => (hT.same k (Nat.ne_of_lt hk)).trans (hwY.block k hk)⟩, hT.at_,
            (hT.same _ h36.out).trans ((HBY.out.block _ hc6.out.2).trans hc6.out.1), (hT.same _ h39.out).trans HC9.out,
            hOW.out.imp fun _ hh => ownsRow_keep hh (fun k hk => (hT.same k (fun ek => by
              obtain ⟨cur, hcu⟩ := row_typed hh k hk
              have h3 := hc3.out.1
              rw [ek] at hcu
              exact other_type hcu h3 (by decide) rfl)).trans (HBY.out.block k (hh.lt k hk).2)),
            HITY.out.keep (Nat.le_of_eq hT.size.symm) (fun k hk _ => hT.same k (fun ek => HND.out (ek ▸ hk)))⟩
        rw [hZ]
        clear hZ hT hwY hu47 hu50 hu51 k3' f3' k9' k6' HT3 HC9 HC3 HITY HBY HND HE0
        have k9 := HGZ.out.k9
        have k9a : ((Z.alloc (.cells #[] 32)).alloc (.cells #[.slice (some ⟨Z.heap.size, 0, none⟩) 0 0] 25)).cell? ⟨b9, 0, none⟩ = some (.func (.func 44) #[] lb) := ((((Below.refl _ Z).alloc (Nat.le_refl _) _).alloc (by simp) _).cell (World.block_lt_of_cell? _ _ k9)).trans k9
        go_wp2_with (fail)
        obtain ⟨base, hbase⟩ : ∃ base, Z.heap.size = base := ⟨_, rfl⟩
        obtain ⟨X, hX⟩ : ∃ X, (Z.alloc (.cells #[] 32)).alloc (.cells #[.slice (some ⟨Z.heap.size, 0, none⟩) 0 0] 25) = X := ⟨_, rfl⟩
        have hXs : X.heap.size = base + 2 := by rw [← hX]; simp; omega
        have hZX : Below Z.heap.size Z X := by rw [← hX]; exact ((Below.refl _ Z).alloc (Nat.le_refl _) _).alloc (by simp) _
        have hrow0 : ∃ v, X.heap[base + 1]? = some (.cells #[v] 25 (0, 0)) ∧ X.ownsRow base 32 3 v 0 [] := by
          refine ⟨.slice (some ⟨base, 0, none⟩) 0 0, ?_, ?_⟩
          · rw [← hX, ← hbase]
            have := World.alloc_heap_new (Z.alloc (.cells #[] 32)) (.cells #[.slice (some ⟨Z.heap.size, 0, none⟩) 0 0] 25)
            rwa [World.size_alloc] at this
          · have := (World.ownsRow_lit (base := Z.heap.size) (e := 32) (size := 3) Z #[] 0 (Nat.le_refl _) (by unfold maxLen; omega) rfl).alloc (.cells #[.slice (some ⟨Z.heap.size, 0, none⟩) 0 0] 25)
            rw [← hX, ← hbase]
            exact this
        have hGX := HGZ.out.step hZX
        rw [hX, hbase]
        rw [hbase] at hZX
        refine (wpIn_wide (n := 0)).1 ?_
        have hB1 : base ≤ X.heap.size := by omega
        have ha1 : base + 1 < X.heap.size := by omega
        have hE1 : Beside X base (base + 1) [] := ⟨fun p hp => by cases hp⟩
        have hDb : ∀ k, D k → k < base := fun k hk => by rw [← hbase]; exact HGZ.out.it.lt k hk
        have HB1 := Lib.hid hB1
        have HA1 := Lib.hid ha1
        have HDB := Lib.hid hDb
        have HZX := Lib.hid hZX
        have HBZ : Hid (Z.heap.size = base) := Lib.hid hbase
        have HXS := Lib.hid hXs
        clear hXs hbase
        refine wpIn_range_break (ps := #[54]) (gf := 44) (lb := lb) rfl hGX.it.goes hGX.it.seq (fun k hk => Nat.lt_of_lt_of_le (hDb k hk) hB1) (fun _ => rfl)
          (fun pre T W => GJ S32.f0 S32.f1 S32.f2 X base (base + 1) [] pre T W ∧ pre.length ≤ e)
          (LeftAt X base e)
          (fun W => ∃ T, GJ S32.f0 S32.f1 S32.f2 X base (base + 1) [] (m.take (min e m.length)) T W)
          (fun pre x T' a' Y => ∃ b11, a' = { tmps := #[Value.slice A0 ls.length c0, Value.int IntKind.i64 lv, undef, Value.pointer (some { block := w.heap.size, off := 0 }), Value.bool false, Value.bool true, Value.pointer (some { block := b6, off := 0 }), Value.slice (some { block := g7, off := 0 }) ls.length c7, Value.int IntKind.i64 ↑ls.length, Value.pointer (some { block := b9, off := 0 }), Value.pointer (some { block := base + 1, off := 0 }), .pointer (some ⟨b11, 0, none⟩), undef, undef, undef, undef, undef, undef, Value.bool true, Value.bool true, Value.bool false, Value.slice A0 ls.length c0, Value.slice Aw m.length cw, Value.slice (some { block := B.heap.size, off := 0 }) 0 0, Value.int IntKind.i64 ↑ls.length, Value.slice A0 ls.length c0, Value.int IntKind.i64 ↑ls.length, Value.bool false, u28, u29, u30, u31, u32, u33, u34, u35, u36, u37, Value.slice (some { block := g7, off := 0 }) ls.length c7, Value.func (Fn.func 44) #[] lb, Value.func (Fn.func 44) #[] lb, Value.bool false, u42, u43, u44, u45, u46, u47, Value.slice Aw m.length cw, Value.int IntKind.i64 ↑m.length, u50, u51, Value.slice (some { block := base, off := 0 }) 0 0, Value.func (Fn.func 44) #[] lb, agg S32.f0 S32.f1 S32.f2 x, undef, undef, undef, undef, undef, undef, undef, undef, undef, undef, undef, undef, undef, undef, undef, undef, undef, undef, undef, undef, undef, undef, undef, undef, undef, undef, undef, undef, undef, undef, undef, undef, undef, undef, undef, undef, undef, undef, undef, undef, undef, undef, undef, undef, undef, undef, undef, undef, undef, undef, undef, undef, undef, undef, undef, undef, undef, undef, undef, undef, undef, undef, undef, undef, undef, undef, undef, undef, undef, undef, undef, undef, undef, undef, undef, undef, undef], defers := [] } ∧ Y.heap[b11]? = some (.cells #[.int .u64 x.f0, .int .u64 x.f1, .bool x.f2] 32 (0, 0)))
          (fun pre T T' A A' h ht => ⟨h.1.turned hB1 ha1 hE1 ht, h.2⟩)
          (fun xs T T' A A' h ht => h.imp fun pre h => h.imp fun x h => ⟨h.1, h.2.1, h.2.2.turned hB1 ha1 hE1 ht⟩)
          (fun T pre Y Y' row h hg hr => ⟨h.1.grown hB1 ha1 hE1 hg hr, h.2⟩)
          (fun T xs Y Y' row h hg hr => h.imp fun pre h => h.imp fun x h => ⟨h.1, h.2.1, h.2.2.grown hB1 ha1 hE1 hg hr⟩)
          ?hAo ⟨GJ.start hrow0 (fun p hp => by cases hp), Nat.zero_le _⟩ ?assign ?body ?done ?stop ?rest
        case hAo =>
          rintro pre x T' a' _ Y Y' row ⟨b11, h1, h2⟩ hg hr
          refine ⟨b11, h1, (hg.block b11 (Array.getElem?_eq_some_iff.1 h2).1 (fun e => ?_)).trans h2⟩
          obtain ⟨_, o, ho, hc⟩ := hr b11 e.symm
          rw [ho] at h2
          injection h2 with h2
          subst h2
          cases hc
        case assign =>
          intro lr pre x T' Y K hG hnx hK
          gi_wp2
          exact hK _ _ ⟨by simp, fun k o _ hk _ => (Below.heap_alloc _ _ _ (Array.getElem?_eq_some_iff.1 hk).1).trans hk⟩ (fun k _ hk => Below.heap_alloc _ _ _ hk) ⟨hG.1.turned hB1 ha1 hE1 (Turned.of_below ((Below.refl _ Y).alloc (Nat.le_refl _) _)), hG.2⟩ ⟨_, rfl, World.alloc_heap_new Y _⟩
        case done =>
          rintro xs T' W rfl ⟨hG, hl⟩
          exact ⟨T', by rw [Nat.min_eq_right hl, List.take_length]; exact hG⟩
        case stop =>
          rintro xs T' W ⟨more, hm⟩ ⟨pre, x, rfl, hl, hG⟩
          refine ⟨T', ?_⟩
          have hm2 : pre ++ ([x] ++ more) = m := by rw [← List.append_assoc]; exact hm
          have h1 : pre.length ≤ m.length := by rw [← hm2, List.length_append]; omega
          rw [Nat.min_eq_left (by omega), ← hl, ← hm2, List.take_left]
          exact hG
        case body =>
          rintro lr pre x T' a' Y hB hrec hnT ⟨hG, hpe⟩ ⟨b11, rfl, h8⟩ ⟨more, hmore⟩
          have hgy := HGZ.out.step (by rw [HBZ.out]; exact hG.below HB1.out HZX.out)
          obtain ⟨A10, c10, g1, g2⟩ := hG.form
          have ca : Y.cell? ⟨base + 1, 0, none⟩ = some (.slice A10 pre.length c10) := by rw [cell_of_row Y _ 0 _ _ _ g1]; rfl
          have k3 := hgy.k3
          have hpl := len_bound hmore hgy.it.len
          clear hrec
          by_cases hpe2 : pre.length = e
          · have d0 : ((pre.length : Int) == (e : Int)) = true := by rw [hpe2]; exact beq_self_eq_true _
            have HEX : Hid (LeftAt X base e (pre ++ [x]) T' Y) := Lib.hid ⟨pre, x, rfl, hpe2, hG⟩
            clear hpe hG hgy g1 g2 hpl hmore hB hnT hpe2
            gi_wp2
            exact ⟨KeepsFrom.refl _ Y, fun k _ _ => rfl, rfl, HEX.out⟩
          · have d0 : ((pre.length : Int) == (e : Int)) = false := by rw [beq_eq_false_iff_ne]; omega
            have HPE : Hid ((pre ++ [x]).length ≤ e) := Lib.hid (by rw [List.length_append]; simp; omega)
            have hx3 : ∀ u ∈ [Value.int .u64 x.f0, .int .u64 x.f1, .bool x.f2], u.oneCell' = true := by
              intro u hu
              simp only [List.mem_cons, List.not_mem_nil, or_false] at hu
              rcases hu with hu | hu | hu <;> subst hu
              · rfl
              · rfl
              · rfl
            have hYl := hG.lt
            have hYs := hG.size
            have c0' : Y.cell? ⟨b11, 0, none⟩ = some (.int .u64 x.f0) := by rw [cell_of_row Y _ 0 _ _ _ h8]; rfl
            have c1' : Y.cell? ⟨b11, 1, none⟩ = some (.int .u64 x.f1) := by rw [cell_of_row Y _ 1 _ _ _ h8]; rfl
            have c2' : Y.cell? ⟨b11, 2, none⟩ = some (.bool x.f2) := by rw [cell_of_row Y _ 2 _ _ _ h8]; rfl
            have HG := Lib.hid hG
            have HG1 := Lib.hid g1
            have HG2 := Lib.hid g2
            have HX3 := Lib.hid hx3
            have HPL := Lib.hid hpl
            have HYL := Lib.hid hYl
            have HYS : Hid (base ≤ Y.heap.size) := Lib.hid (Nat.le_trans HB1.out hYs)
            have HA7 : Hid ((Value.slice A10 pre.length c10).ownBlock ≠ some (base + 1)) := Lib.hid (fun ek => by
              obtain ⟨cur, hcu⟩ := row_typed g2 _ ek
              exact other_type hcu g1 (by decide) rfl)
            clear hpe hG hgy g1 g2 hx3 hpl hmore hB hnT hpe2 hYl hYs
            gi_wp2_with (first | (gi_at_builtin; go_must (refine wpListIn_append_own_at _ rfl (.tmp 59) (.tmp 61) 25 rfl base 32 i32 _ 3 24 Try.underlying25 hi32 hz320 hz321 hz322 rfl (by decide) (.slice A10 pre.length c10) pre.length (erow S32.f0 S32.f1 S32.f2 pre) (by rfl) (HG2.out.alloc _) ⟨Y.heap.size, 0, none⟩ 1 1 [.int .u64 x.f0, .int .u64 x.f1, .bool x.f2] (by rfl) (by rfl) (World.news_of_block (cs := #[.int .u64 x.f0, .int .u64 x.f1, .bool x.f2]) (t := 32) (fr := (0, 0)) (World.alloc_heap_new Y _)) HX3.out (len_max HPL.out) HPL.out (by rw [World.size_alloc]; exact Nat.le_succ_of_le HYS.out) ?_; intro v' w1 hown1 hgrow hnil hat; obtain ⟨gg, cg, ev', _, _⟩ := hown1.form (Nat.succ_pos _); subst ev'; have hcz : w1.heap[base + 1]? = some (.cells #[.slice A10 pre.length c10] 25 (0, 0)) := ((hgrow.block _ (by rw [World.size_alloc]; exact Nat.lt_succ_of_lt HYL.out) (fun e => HA7.out e.symm)).trans (Below.heap_alloc Y _ _ HYL.out)).trans HG1.out; have hcz1 : w1.cell? ⟨base + 1, 0, none⟩ = some (.slice A10 pre.length c10) := (by rw [cell_of_row w1 _ 0 _ _ _ hcz]; rfl); have hcz2 : w1.frozen? ⟨base + 1, 0, none⟩ = false := (by simp [World.frozen?, hcz]); have HOWN1 := Lib.hid hown1; have HGR := Lib.hid hgrow; have HAT := Lib.hid hat; clear hown1 hgrow hnil hat hcz)))
            obtain ⟨q1, q2, q3⟩ := GJ.next HB1.out (Nat.le_add_right base 1) HA1.out hE1 HG.out HG1.out HOWN1.out HGR.out HAT.out
            exact ⟨q2, q3 D HDB.out, q1, HPE.out⟩
        case rest =>
          rintro C W hC ⟨T', hG⟩ hmark
          have hbW : Below Z.heap.size Z W := by rw [HBZ.out]; exact hG.below HB1.out HZX.out
          have hgw := HGZ.out.step hbW
          obtain ⟨q, hq⟩ : ∃ q : Nat, min e m.length = q := ⟨_, rfl⟩
          rw [hq] at hG
          have hql : q ≤ m.length := by rw [← hq]; exact Nat.min_le_right _ _
          have htl : (m.take q).length = q := by rw [List.length_take]; omega
          obtain ⟨A10, c10, g1, g2⟩ := hG.form
          have ca : W.cell? ⟨base + 1, 0, none⟩ = some (.slice A10 q c10) := by rw [cell_of_row W _ 0 _ _ _ g1, htl]; rfl
          have k3 := hgw.k3
          have k6 := hgw.k6
          have hmin : (if m.length < e then (m.length : Int) else (e : Int)) = (q : Int) := by rw [← hq]; split <;> omega
          have HMIN := Lib.hid hmin
          have HGW := Lib.hid hgw
          obtain ⟨bw, how⟩ := hgw.want
          obtain ⟨hCw, hcw, _⟩ := own_C how
          have hb3 : (0 : Int) ≤ (q : Int) := Int.natCast_nonneg q
          have hb4 : (q : Int) ≤ (cw : Int) := by omega
          have hcut := cut_cap (P := Try.prog) 25 32 .i64 Try.underlying25 hi32 Aw m.length cw (q : Int) hb3 hb4
          rw [Int.toNat_natCast] at hcut
          have HOK : Hid (RowLit.ok W (A10, c10, m.take q) ∧ RowLit.ok W (Aw, cw, m.take q)) := Lib.hid ⟨by
            have h := own_C g2
            exact ⟨h.1, h.2.1⟩, take_ok how q⟩
          have HQ := Lib.hid (And.intro hq (And.intro hql htl))
          clear hmin how hCw hcw
          have HMK := Lib.hid hmark
          have HCX : Hid (base + 2 ≤ C) := Lib.hid (by rw [← HXS.out]; exact hC)
          clear hG hbW hgw hq hql htl g1 g2 hmark hC
          dsimp only
          go_upto_region 22 with (fail)
          rw [HMIN.out]
          go_cut [72] from 67 to 72 (fun v72 wd => v72 = .bool false ∧ Hid (∃ n, wd = W.drewN n))
          case first =>
            go_quiet (first | (go_at_call 14; refine (same_cut HQ.out.2.2 HOK.out.1 HOK.out.2 (by have := HLM.out; have := HQ.out.2.1; omega) _).mono ?_; rintro e w2 ⟨rfl, kk, rfl⟩; exact ⟨rfl, _, rfl⟩))
            go_wp2_with (fail)
            go_meet
            case rel => exact ⟨rfl, Lib.hid ⟨_, rfl⟩⟩
          case rest =>
            obtain ⟨rfl, HND⟩ := hcut
            obtain ⟨nd2, hnd⟩ := HND.out
            have hgw : Grd w w.heap.size b6 b9 e Aw cw m lb D wc := by rw [hnd]; exact HGW.out.step ⟨rfl, rfl, rfl, Nat.le_refl _, fun _ _ => rfl⟩
            have hmk : wc.heap[C]? = some (.deferred (some [])) := by rw [hnd]; exact HMK.out
            have HG4 := Lib.hid hgw
            have HMK4 := Lib.hid hmk
            have k9 := hgw.k9
            clear hgw hmk hnd HND ca k3 k6 hcut hb3 hb4
            go_upto_region 27 with (fail)
            obtain ⟨b2, hb2⟩ : ∃ b2, wc.heap.size = b2 := ⟨_, rfl⟩
            obtain ⟨a13, h13⟩ : ∃ a13, b2 + 1 = a13 := ⟨_, rfl⟩
            obtain ⟨a14, h14⟩ : ∃ a14, a13 + 1 = a14 := ⟨_, rfl⟩
            obtain ⟨a15, h15⟩ : ∃ a15, a14 + 1 = a15 := ⟨_, rfl⟩
            obtain ⟨X2, hX2⟩ : ∃ X2, (((wc.alloc (.cells #[] 32)).alloc (.cells #[.slice (some ⟨wc.heap.size, 0, none⟩) 0 0] 25)).alloc (.cells #[.int .i64 0] 3)).alloc (.cells #[.bool true] 4) = X2 := ⟨_, rfl⟩
            have hX2s : X2.heap.size = a15 + 1 := by rw [← hX2]; simp; omega
            have bA := (Below.refl _ wc).alloc (Nat.le_refl _) (.cells #[] 32)
            have bB := (Below.refl _ (wc.alloc (.cells #[] 32))).alloc (Nat.le_refl _) (.cells #[.slice (some ⟨wc.heap.size, 0, none⟩) 0 0] 25)
            have bC := (Below.refl _ ((wc.alloc (.cells #[] 32)).alloc (.cells #[.slice (some ⟨wc.heap.size, 0, none⟩) 0 0] 25))).alloc (Nat.le_refl _) (.cells #[.int .i64 0] 3)
            have bD := (Below.refl _ (((wc.alloc (.cells #[] 32)).alloc (.cells #[.slice (some ⟨wc.heap.size, 0, none⟩) 0 0] 25)).alloc (.cells #[.int .i64 0] 3))).alloc (Nat.le_refl _) (.cells #[.bool true] 4)
            have hX2b : Below wc.heap.size wc X2 := by rw [← hX2]; exact (((bA.trans (bB.mono (by simp))).trans (bC.mono (by simp; omega))).trans (bD.mono (by simp; omega)))
            have e13 : X2.heap[a13]? = some (.cells #[.slice (some ⟨b2, 0, none⟩) 0 0] 25 (0, 0)) := by
              rw [← hX2, bD.block _ (by simp; omega), bC.block _ (by simp; omega), ← h13, ← hb2]
              have := World.alloc_heap_new (wc.alloc (.cells #[] 32)) (.cells #[.slice (some ⟨wc.heap.size, 0, none⟩) 0 0] 25)
              rwa [World.size_alloc] at this
            have e14 : X2.heap[a14]? = some (.cells #[.int .i64 0] 3 (0, 0)) := by
              rw [← hX2, bD.block _ (by simp; omega), ← h14, ← h13, ← hb2]
              have := World.alloc_heap_new ((wc.alloc (.cells #[] 32)).alloc (.cells #[.slice (some ⟨wc.heap.size, 0, none⟩) 0 0] 25)) (.cells #[.int .i64 0] 3)
              rwa [World.size_alloc, World.size_alloc] at this
            have e15 : X2.heap[a15]? = some (.cells #[.bool true] 4 (0, 0)) := by
              rw [← hX2, ← h15, ← h14, ← h13, ← hb2]
              have := World.alloc_heap_new (((wc.alloc (.cells #[] 32)).alloc (.cells #[.slice (some ⟨wc.heap.size, 0, none⟩) 0 0] 25)).alloc (.cells #[.int .i64 0] 3)) (.cells #[.bool true] 4)
              rwa [World.size_alloc, World.size_alloc, World.size_alloc] at this
            have hrow2 : ∃ v, X2.heap[a13]? = some (.cells #[v] 25 (0, 0)) ∧ X2.ownsRow b2 32 3 v 0 [] := by
              refine ⟨_, e13, ?_⟩
              have := ((((World.ownsRow_lit (base := wc.heap.size) (e := 32) (size := 3) wc #[] 0 (Nat.le_refl _) (by unfold maxLen; omega) rfl).alloc (.cells #[.slice (some ⟨wc.heap.size, 0, none⟩) 0 0] 25)).alloc (.cells #[.int .i64 0] 3)).alloc (.cells #[.bool true] 4))
              rw [← hX2, ← hb2]
              exact this
            have hGX2 := HG4.out.step hX2b
            have k9b := hGX2.k9
            have HE2 : Hid (∀ v, Beside X2 b2 a13 (E2 a14 a15 v)) := Lib.hid (fun v => ⟨fun p hp => by
              rcases List.mem_cons.1 hp with rfl | hp
              · exact ⟨by show b2 ≤ a14; omega, by show a14 < _; omega, by show a14 ≠ _; omega, _, 3, rfl, by decide⟩
              · rw [List.mem_singleton] at hp
                subst hp
                exact ⟨by show b2 ≤ a15; omega, by show a15 < _; omega, by show a15 ≠ _; omega, _, 4, rfl, by decide⟩⟩)
            have HST : Hid (GJ S32.f0 S32.f1 S32.f2 X2 b2 a13 (E2 a14 a15 (inn e m.length 0)) [] (fun _ => False) X2) := Lib.hid (by
              have hi : inn e m.length 0 = 0 := by unfold inn; rw [if_neg (by omega)]
              rw [hi]
              refine GJ.start hrow2 (fun p hp => ?_)
              rcases List.mem_cons.1 hp with rfl | hp
              · exact e14
              · rw [List.mem_singleton] at hp
                subst hp
                exact e15)
            rw [hX2, hb2, h13, h14, h15]
            have HB2 : Hid (b2 ≤ X2.heap.size ∧ b2 ≤ a13 ∧ a13 < X2.heap.size ∧ a14 < X2.heap.size ∧ a15 < X2.heap.size ∧ a14 ≠ a15 ∧ b2 ≤ a14 ∧ b2 ≤ a15 ∧ a13 ≠ a14 ∧ a13 ≠ a15) := Lib.hid (by omega)
            have HZX2 : Hid (Below b2 wc X2) := Lib.hid (by rw [← hb2]; exact hX2b)
            have HWC : Hid (wc.heap.size = b2) := Lib.hid hb2
            have HDB2 : Hid (∀ k, D k → k < b2) := Lib.hid (fun k hk => by rw [← hb2]; exact HG4.out.it.lt k hk)
            have HGX2 := Lib.hid hGX2
            clear hb2 h13 h14 h15 hX2 hX2s bA bB bC bD hX2b e13 e14 e15 hrow2 hGX2 k9
            go_wp2_with (fail)
            refine (wpIn_wide (n := 0)).1 ?_
            refine wpIn_rangeFunc_D (ps := #[75]) (gf := 44) (lb := lb) rfl HGX2.out.it.goes HGX2.out.it.seq (fun k hk => Nat.lt_of_lt_of_le (HDB2.out k hk) HB2.out.1) (fun _ => rfl)
              (fun pre T W => GJ S32.f0 S32.f1 S32.f2 X2 b2 a13 (E2 a14 a15 (inn e m.length pre.length)) pre T W) (fun _ _ _ _ => False)
              (fun pre x T' a' Y => ∃ b16, a' = { tmps := #[Value.slice A0 ls.length c0, Value.int IntKind.i64 lv, undef, Value.pointer (some { block := w.heap.size, off := 0 }), Value.bool false, Value.bool true, Value.pointer (some { block := b6, off := 0 }), Value.slice (some { block := g7, off := 0 }) ls.length c7, Value.int IntKind.i64 ↑ls.length, Value.pointer (some { block := b9, off := 0 }), Value.pointer (some { block := base + 1, off := 0 }), undef, Value.int IntKind.i64 ↑q, Value.pointer (some { block := a13, off := 0 }), Value.pointer (some { block := a14, off := 0 }), Value.pointer (some { block := a15, off := 0 }), .pointer (some ⟨b16, 0, none⟩), undef, Value.bool true, Value.bool true, Value.bool false, Value.slice A0 ls.length c0, Value.slice Aw m.length cw, Value.slice (some { block := B.heap.size, off := 0 }) 0 0, Value.int IntKind.i64 ↑ls.length, Value.slice A0 ls.length c0, Value.int IntKind.i64 ↑ls.length, Value.bool false, u28, u29, u30, u31, u32, u33, u34, u35, u36, u37, Value.slice (some { block := g7, off := 0 }) ls.length c7, Value.func (Fn.func 44) #[] lb, Value.func (Fn.func 44) #[] lb, Value.bool false, u42, u43, u44, u45, u46, u47, Value.slice Aw m.length cw, Value.int IntKind.i64 ↑m.length, u50, u51, Value.slice (some { block := base, off := 0 }) 0 0, Value.func (Fn.func 44) #[] lb, undef, undef, undef, undef, undef, undef, undef, undef, undef, Value.int IntKind.i64 ↑e, Value.slice Aw m.length cw, Value.int IntKind.i64 ↑m.length, Value.int IntKind.i64 ↑q, u67, u68, u69, u70, u71, Value.bool false, Value.slice (some { block := b2, off := 0 }) 0 0, Value.func (Fn.func 44) #[] lb, agg S32.f0 S32.f1 S32.f2 x, undef, undef, undef, undef, undef, undef, undef, undef, undef, undef, undef, undef, undef, undef, undef, undef, undef, undef, undef, undef, undef, undef, undef, undef, undef, undef, undef, undef, undef, undef, undef, undef, undef, undef, undef, undef, undef, undef, undef, undef, undef, undef, undef, undef, undef, undef, undef, undef, undef, undef, undef, undef, undef, undef, undef, undef], defers := [] } ∧ Y.heap[b16]? = some (.cells #[.int .u64 x.f0, .int .u64 x.f1, .bool x.f2] 32 (0, 0)))
              (fun pre T T' A A' h ht => h.turned HB2.out.1 HB2.out.2.2.1 (HE2.out _) ht) (fun _ _ _ _ _ _ h _ => h)
              (fun T pre Y Y' row h hg hr => h.grown HB2.out.1 HB2.out.2.2.1 (HE2.out _) hg hr) (fun _ _ _ _ _ _ h _ _ => h)
              ?hAo HST.out ?assign ?body ?done ?stop
            case hAo =>
              rintro pre x T' a' _ Y Y' row ⟨b16, h1, h2⟩ hg hr
              refine ⟨b16, h1, (hg.block b16 (Array.getElem?_eq_some_iff.1 h2).1 (fun e => ?_)).trans h2⟩
              obtain ⟨_, o, ho, hc⟩ := hr b16 e.symm
              rw [ho] at h2
              injection h2 with h2
              subst h2
              cases hc
            case stop => exact fun _ _ _ _ _ _ _ h => h.elim
            case assign =>
              intro lr pre x T' Y K hG hnx hK
              gi_wp2
              exact hK _ _ ⟨by simp, fun k o _ hk _ => (Below.heap_alloc _ _ _ (Array.getElem?_eq_some_iff.1 hk).1).trans hk⟩ (fun k _ hk => Below.heap_alloc _ _ _ hk) (hG.turned HB2.out.1 HB2.out.2.2.1 (HE2.out _) (Turned.of_below ((Below.refl _ Y).alloc (Nat.le_refl _) _))) ⟨_, rfl, World.alloc_heap_new Y _⟩
            case body =>
              rintro lr pre x T' a' Y hB hrec hnT hG ⟨b16, rfl, h8⟩ ⟨more, hmore⟩
              have hgy := HG4.out.step (by rw [HWC.out]; exact hG.below HB2.out.1 HZX2.out)
              obtain ⟨A13, c13, g1, g2⟩ := hG.form
              have ca : Y.cell? ⟨a13, 0, none⟩ = some (.slice A13 pre.length c13) := by rw [cell_of_row Y _ 0 _ _ _ g1]; rfl
              have hpl := len_bound hmore hgy.it.len
              have hx3 : ∀ u ∈ [Value.int .u64 x.f0, .int .u64 x.f1, .bool x.f2], u.oneCell' = true := by
                intro u hu
                simp only [List.mem_cons, List.not_mem_nil, or_false] at hu
                rcases hu with hu | hu | hu <;> subst hu
                · rfl
                · rfl
                · rfl
              have hYl := hG.lt
              have hYs := hG.size
              have c0' : Y.cell? ⟨b16, 0, none⟩ = some (.int .u64 x.f0) := by rw [cell_of_row Y _ 0 _ _ _ h8]; rfl
              have c1' : Y.cell? ⟨b16, 1, none⟩ = some (.int .u64 x.f1) := by rw [cell_of_row Y _ 1 _ _ _ h8]; rfl
              have c2' : Y.cell? ⟨b16, 2, none⟩ = some (.bool x.f2) := by rw [cell_of_row Y _ 2 _ _ _ h8]; rfl
              have HG := Lib.hid hG
              have HGY := Lib.hid hgy
              have HG1 := Lib.hid g1
              have HG2 := Lib.hid g2
              have HX3 := Lib.hid hx3
              have HPL := Lib.hid hpl
              have HYL := Lib.hid hYl
              have HYS : Hid (b2 ≤ Y.heap.size) := Lib.hid (Nat.le_trans HB2.out.1 hYs)
              have HMORE := Lib.hid hmore
              have HREC := Lib.hid hrec
              have HBL := Lib.hid hB
              have HNT := Lib.hid hnT
              have HA7 : Hid ((Value.slice A13 pre.length c13).ownBlock ≠ some a13) := Lib.hid (fun ek => by
                obtain ⟨cur, hcu⟩ := row_typed g2 _ ek
                exact other_type hcu g1 (by decide) rfl)
              clear hG hgy g1 g2 hx3 hpl hmore hB hnT hYl hYs hrec
              dsimp only
              gi_upto_region 30 with (first | (gi_at_builtin; go_must (refine wpListIn_append_own_at _ rfl (.tmp 76) (.tmp 78) 25 rfl b2 32 i32 _ 3 24 Try.underlying25 hi32 hz320 hz321 hz322 rfl (by decide) (.slice A13 pre.length c13) pre.length (erow S32.f0 S32.f1 S32.f2 pre) (by rfl) (HG2.out.alloc _) ⟨Y.heap.size, 0, none⟩ 1 1 [.int .u64 x.f0, .int .u64 x.f1, .bool x.f2] (by rfl) (by rfl) (World.news_of_block (cs := #[.int .u64 x.f0, .int .u64 x.f1, .bool x.f2]) (t := 32) (fr := (0, 0)) (World.alloc_heap_new Y _)) HX3.out (len_max HPL.out) HPL.out (by rw [World.size_alloc]; exact Nat.le_succ_of_le HYS.out) ?_; intro v' w1 hown1 hgrow hnil hat; obtain ⟨gg, cg, ev', _, _⟩ := hown1.form (Nat.succ_pos _); subst ev'; have hcz : w1.heap[a13]? = some (.cells #[.slice A13 pre.length c13] 25 (0, 0)) := ((hgrow.block _ (by rw [World.size_alloc]; exact Nat.lt_succ_of_lt HYL.out) (fun e => HA7.out e.symm)).trans (Below.heap_alloc Y _ _ HYL.out)).trans HG1.out; have hcz1 : w1.cell? ⟨a13, 0, none⟩ = some (.slice A13 pre.length c13) := (by rw [cell_of_row w1 _ 0 _ _ _ hcz]; rfl); have hcz2 : w1.frozen? ⟨a13, 0, none⟩ = false := (by simp [World.frozen?, hcz]); have HOWN1 := Lib.hid hown1; have HGR := Lib.hid hgrow; have HAT := Lib.hid hat; clear hown1 hgrow hnil hat hcz)))
              obtain ⟨q1, q2, q3⟩ := GJ.next HB2.out.1 HB2.out.2.1 HB2.out.2.2.1 (HE2.out _) HG.out HG1.out HOWN1.out HGR.out HAT.out
              obtain ⟨Y2, hY2⟩ : ∃ Y2, w1.setCell ⟨a13, 0, none⟩ (.slice (some ⟨gg, 0, none⟩) (pre.length + 1) cg) = Y2 := ⟨_, rfl⟩
              rw [hY2] at q1 q2 q3 ⊢
              have hgy2 := HG4.out.step (by rw [HWC.out]; exact q1.below HB2.out.1 HZX2.out)
              obtain ⟨A14, c14, f1, f2⟩ := q1.form
              obtain ⟨p1, hp1⟩ : ∃ p1, (pre ++ [x]).length = p1 := ⟨_, rfl⟩
              have hp2 : pre.length + 1 = p1 := by rw [← hp1, List.length_append]; rfl
              have cb : Y2.cell? ⟨a13, 0, none⟩ = some (.slice A14 p1 c14) := by rw [cell_of_row Y2 _ 0 _ _ _ f1, hp1]; rfl
              have k3 := hgy2.k3
              have k9 := hgy2.k9
              have HQ1 := Lib.hid q1
              have HQ2 := Lib.hid q2
              have HQ3 := Lib.hid q3
              have HGY2 := Lib.hid hgy2
              have HP1 := Lib.hid (And.intro hp1 hp2)
              by_cases hpe : p1 = e
              · have d0 : ((p1 : Int) == (e : Int)) = true := by rw [hpe]; exact beq_self_eq_true _
                have hin : inn e m.length pre.length = 0 := by unfold inn; rw [if_neg (by omega)]
                have hin2 : inn e m.length p1 = m.length := by unfold inn; rw [if_pos (by omega)]
                rw [hin] at HQ1
                have HIN2 := Lib.hid hin2
                clear q1 q2 q3 hgy2 f1 f2 hp1 hp2 hpe hY2 ca c0' c1' c2' h8 hcz1 hcz2 hin hin2
                gi_wp2_with (fail)
                obtain ⟨r₀, hr₀⟩ := HREC.out
                have hl₀ := HQ2.out.same lr _ HBL.out hr₀ rfl
                have hn0 : Y2.heap[a14]? = some (.cells #[.int .i64 0] 3 (0, 0)) := HQ1.out.ex (a14, _) (List.mem_cons_self ..)
                have h15 : Y2.heap[a15]? = some (.cells #[.bool true] 4 (0, 0)) := HQ1.out.ex (a15, _) (List.mem_cons_of_mem _ (List.mem_singleton.2 rfl))
                have ha14 : a14 < Y2.heap.size := (Array.getElem?_eq_some_iff.1 hn0).1
                have HN15 := Lib.hid h15
                have HA14 := Lib.hid ha14
                clear hr₀ h15
                refine wpIn_rangeFunc_DN (ps := #[85]) (gf := 44) (lb := lb) hl₀ rfl HGY2.out.it.goes HGY2.out.it.seq HGY2.out.it.lt (fun _ => rfl)
                  (NC (α := S32) Y2 a14) (fun _ _ _ _ => False)
                  (fun pre2 y T2 a2 V => ∃ b17, a2 = { tmps := #[Value.slice A0 ls.length c0, Value.int IntKind.i64 lv, undef, Value.pointer (some { block := w.heap.size, off := 0 }), Value.bool false, Value.bool true, Value.pointer (some { block := b6, off := 0 }), Value.slice (some { block := g7, off := 0 }) ls.length c7, Value.int IntKind.i64 ↑ls.length, Value.pointer (some { block := b9, off := 0 }), Value.pointer (some { block := base + 1, off := 0 }), undef, Value.int IntKind.i64 ↑q, Value.pointer (some { block := a13, off := 0 }), Value.pointer (some { block := a14, off := 0 }), Value.pointer (some { block := a15, off := 0 }), .pointer (some ⟨b16, 0, none⟩), .pointer (some ⟨b17, 0, none⟩), Value.bool true, Value.bool true, Value.bool false, Value.slice A0 ls.length c0, Value.slice Aw m.length cw, Value.slice (some { block := B.heap.size, off := 0 }) 0 0, Value.int IntKind.i64 ↑ls.length, Value.slice A0 ls.length c0, Value.int IntKind.i64 ↑ls.length, Value.bool false, u28, u29, u30, u31, u32, u33, u34, u35, u36, u37, Value.slice (some { block := g7, off := 0 }) ls.length c7, Value.func (Fn.func 44) #[] lb, Value.func (Fn.func 44) #[] lb, Value.bool false, u42, u43, u44, u45, u46, u47, Value.slice Aw m.length cw, Value.int IntKind.i64 ↑m.length, u50, u51, Value.slice (some { block := base, off := 0 }) 0 0, Value.func (Fn.func 44) #[] lb, undef, undef, undef, undef, undef, undef, undef, undef, undef, Value.int IntKind.i64 ↑e, Value.slice Aw m.length cw, Value.int IntKind.i64 ↑m.length, Value.int IntKind.i64 ↑q, u67, u68, u69, u70, u71, Value.bool false, Value.slice (some { block := b2, off := 0 }) 0 0, Value.func (Fn.func 44) #[] lb, agg S32.f0 S32.f1 S32.f2 x, .slice A13 pre.length c13, agg S32.f0 S32.f1 S32.f2 x, .slice (some ⟨Y.heap.size, 0, none⟩) 1 1, .slice (some ⟨gg, 0, none⟩) (pre.length + 1) cg, .slice A14 p1 c14, .int .i64 (p1 : Int), .int .i64 (e : Int), .bool true, .func (.func 44) #[] lb, agg S32.f0 S32.f1 S32.f2 y, undef, undef, undef, undef, undef, undef, undef, undef, undef, undef, undef, undef, undef, undef, undef, undef, undef, undef, undef, undef, undef, undef, undef, undef, undef, undef, undef, undef, undef, undef, undef, undef, undef, undef, undef, undef, undef, undef, undef, undef, undef, undef, undef, undef, undef, undef], defers := [] } ∧ V.heap[b17]? = some (.cells #[.int .u64 y.f0, .int .u64 y.f1, .bool y.f2] 32 (0, 0)))
                  (NC.abide ha14) (fun _ _ _ _ _ _ h _ => h) (NC.ownT ha14) (fun _ _ _ _ _ _ h _ _ => h) ?hAo3 (NC.start hn0) ?assign3 ?body3 ?done3 ?stop3
                case hAo3 =>
                  rintro pre2 y T2 a2 _ V V' row ⟨b17, h1, h2⟩ hg hr
                  refine ⟨b17, h1, (hg.block b17 (Array.getElem?_eq_some_iff.1 h2).1 (fun e => ?_)).trans h2⟩
                  obtain ⟨_, o, ho, hc⟩ := hr b17 e.symm
                  rw [ho] at h2
                  injection h2 with h2
                  subst h2
                  cases hc
                case stop3 => exact fun _ _ _ _ _ h => h.elim
                case assign3 =>
                  intro l3 pre2 y T2 V K hG3 hnx hK
                  gi_wp2
                  exact hK _ _ ⟨by simp, fun k o _ hk _ => (Below.heap_alloc _ _ _ (Array.getElem?_eq_some_iff.1 hk).1).trans hk⟩ (fun k _ hk => Below.heap_alloc _ _ _ hk) (NC.abide ha14 _ _ _ _ _ hG3 (Turned.of_below ((Below.refl _ V).alloc (Nat.le_refl _) _))) ⟨_, rfl, World.alloc_heap_new V _⟩
                case body3 =>
                  rintro l3 pre2 y T2 a2 V hB3 hrec3 hnT3 hG3 ⟨b17, rfl, h9⟩ ⟨more2, hmore2⟩
                  have bY := HQ1.out.below HB2.out.1 HZX2.out
                  have hY2s := HGY2.out.below.size
                  have hb2Y : b2 ≤ Y2.heap.size := by have := HB2.out.2.2.2.2.2.2.1; omega
                  have hbV : Below b2 wc V := ⟨hG3.os.trans bY.os, hG3.tape.trans bY.tape, hG3.output.trans bY.output, Nat.le_trans bY.size hG3.size, fun k hk => (hG3.same k (by omega) (by have := HB2.out.2.2.2.2.2.2.1; omega)).trans (bY.block k hk)⟩
                  have hgv := HG4.out.step (by rw [HWC.out]; exact hbV)
                  obtain ⟨n5, hn5⟩ : ∃ n5, pre2.length = n5 := ⟨_, rfl⟩
                  replace hmore2 : pre2 ++ [y] ++ more2 = m := hmore2
                  have hml : (pre2 ++ [y] ++ more2).length = m.length := congrArg List.length hmore2
                  rw [List.length_append, List.length_append, List.length_singleton] at hml
                  have hnm : n5 < m.length := by omega
                  have hget : m[n5]? = some y := by rw [← hmore2, ← hn5]; simp
                  obtain ⟨bw, how⟩ := hgv.want
                  obtain ⟨gw, cw2, ew, _⟩ : ∃ g c, (Value.slice Aw m.length cw) = .slice (some ⟨g, 0, none⟩) m.length c ∧ True := by
                    obtain ⟨g, c, e, _⟩ := how.form (by omega)
                    exact ⟨g, c, e, trivial⟩
                  injection ew with ew _ ew2
                  subst ew ew2
                  obtain ⟨w0, w1, w2⟩ := cellsAt_of_own _ _ _ how n5 y hget
                  rw [Nat.zero_add] at w0 w1 w2
                  have k6 := hgv.k6
                  have k14 : V.cell? ⟨a14, 0, none⟩ = some (.int .i64 (n5 : Int)) := by rw [cell_of_row V _ 0 _ _ _ hG3.n, hn5]; rfl
                  have f14 : V.frozen? ⟨a14, 0, none⟩ = false := by simp [World.frozen?, hG3.n]
                  have h15 : V.heap[a15]? = some (.cells #[.bool true] 4 (0, 0)) := (hG3.same a15 (Array.getElem?_eq_some_iff.1 HN15.out).1 (fun ek => HB2.out.2.2.2.2.2.1 ek.symm)).trans HN15.out
                  have k15 : V.cell? ⟨a15, 0, none⟩ = some (.bool true) := by rw [cell_of_row V _ 0 _ _ _ h15]; rfl
                  have f15 : V.frozen? ⟨a15, 0, none⟩ = false := by simp [World.frozen?, h15]
                  have c0' : V.cell? ⟨b17, 0, none⟩ = some (.int .u64 y.f0) := by rw [cell_of_row V _ 0 _ _ _ h9]; rfl
                  have c1' : V.cell? ⟨b17, 1, none⟩ = some (.int .u64 y.f1) := by rw [cell_of_row V _ 1 _ _ _ h9]; rfl
                  have c2' : V.cell? ⟨b17, 2, none⟩ = some (.bool y.f2) := by rw [cell_of_row V _ 2 _ _ _ h9]; rfl
                  have hset : ∀ d, (V.drewN d).setCell ⟨a15, 0, none⟩ (.bool true) = V.drewN d := fun d => setCell_same (W := V.drewN d) h15
                  have n1 : (0 : Int) ≤ (n5 : Int) := Int.natCast_nonneg n5
                  have n2' : (n5 : Int) < (m.length : Int) := Int.ofNat_lt.2 hnm
                  have d1 : decide ((n5 : Int) < (m.length : Int)) = true := decide_eq_true n2'
                  have d2 : decide (n5 < m.length) = true := decide_eq_true hnm
                  obtain ⟨n6, hn6⟩ : ∃ n6, n5 + 1 = n6 := ⟨_, rfl⟩
                  have hn7 : (n5 : Int) + 1 = (n6 : Int) := by rw [← hn6]; rfl
                  have hw6 : IntKind.i64.wrap (n6 : Int) = (n6 : Int) := IntWalk.i64_in _ (by have := HLM.out; omega)
                  have HLN : Hid (((pre2 ++ [y]).length : Int) = (n6 : Int)) := Lib.hid (by rw [List.length_append, hn5]; simp; omega)
                  have HG3 := Lib.hid hG3
                  clear hG3 bY hY2s hb2Y hbV hgv hml hget how hnm hn5 hn6 h15 hmore2 hrec3 hB3 hnT3 h9 hn0 ha14
                  dsimp only
                  gi_upto_region 33 with (fail)
                  refine RangeD.region_round l3 rfl (by kernel_rfl) (by kernel_rfl) (by kernel_rfl) ?_
                  repeat (gi_big_quiet_step (fail))
                  refine wpQuietIn_nil ?_
                  intro _ hw'
                  obtain ⟨nq, hw''⟩ := hw'
                  subst hw''
                  gi_wp2
                  obtain ⟨q1, q2, q3⟩ := (HG3.out.drew nq).next HA14.out (x := y) (u := .int .i64 (n6 : Int)) (by rw [HLN.out])
                  exact ⟨⟨q2.1, q2.2⟩, q3 D (fun k hk => by have h1 := HDB2.out k hk; have h2 := HB2.out.2.2.2.2.2.2.1; have h3 := HA14.out; omega), q1⟩
                case done3 =>
                  rintro xs T2 V hxs hG3
                  obtain rfl : xs = m := hxs
                  have hb14 := HB2.out.2.2.2.1
                  have hb2 := HB2.out.2.2.2.2.2.2.1
                  have hs3 := hG3.size
                  have hV14 : V.heap[a14]? = some (.cells #[.int .i64 (xs.length : Int)] 3 (0, 0)) := hG3.n
                  have hV15 : V.heap[a15]? = some (.cells #[.bool true] 4 (0, 0)) := (hG3.same a15 (Array.getElem?_eq_some_iff.1 HN15.out).1 (fun ek => HB2.out.2.2.2.2.2.1 ek.symm)).trans HN15.out
                  have hre : GJ S32.f0 S32.f1 S32.f2 X2 b2 a13 (E2 a14 a15 xs.length) (pre ++ [x]) T' V := GJ.recell HB2.out.1 HB2.out.2.2.1 (HE2.out _) HQ1.out hG3.os hG3.tape hG3.output hs3
                    (fun k hk hne => hG3.same k hk (hne (a14, _) (List.mem_cons_self ..)))
                    (fun p hp => by
                      rcases List.mem_cons.1 hp with rfl | hp
                      · exact hV14
                      · rw [List.mem_singleton] at hp
                        subst hp
                        exact hV15)
                  refine ⟨HQ2.out.trans ⟨hs3, fun k o hk ho _ => (hG3.same k (Array.getElem?_eq_some_iff.1 ho).1 (by omega)).trans ho⟩, (HQ3.out D HDB2.out).trans HQ2.out.size (fun k hk hl => hG3.same k hl (fun ek => ?_)), ?_⟩
                  · rcases hk with hk | hk
                    · have := HDB2.out k hk; omega
                    · have := (HQ1.out.own k hk).1; omega
                  · show GJ S32.f0 S32.f1 S32.f2 X2 b2 a13 (E2 a14 a15 (inn e xs.length (pre ++ [x]).length)) (pre ++ [x]) T' V
                    rw [HP1.out.1, HIN2.out]
                    exact hre
              · have d0 : ((p1 : Int) == (e : Int)) = false := by rw [beq_eq_false_iff_ne]; omega
                have HI : Hid (GJ S32.f0 S32.f1 S32.f2 X2 b2 a13 (E2 a14 a15 (inn e m.length (pre ++ [x]).length)) (pre ++ [x]) T' Y2) := Lib.hid (by
                  have hi : inn e m.length (pre ++ [x]).length = inn e m.length pre.length := by
                    unfold inn
                    by_cases h : 1 ≤ e ∧ e ≤ pre.length
                    · rw [if_pos h, if_pos (by omega)]
                    · rw [if_neg h, if_neg (by omega)]
                  rw [hi]; exact q1)
                clear q1 q2 q3 hgy2 f1 f2 hp1 hp2 hpe hY2 ca c0' c1' c2' h8 hcz1 hcz2
                gi_wp2_with (fail)
                exact ⟨HQ2.out, HQ3.out D HDB2.out, HI.out⟩
            case done =>
              intro C2 xs T' Y hC2 hxs hG hmark
              obtain rfl : xs = m := hxs
              have hbY := hG.below HB2.out.1 HZX2.out
              have hgy := HG4.out.step (by rw [HWC.out]; exact hbY)
              obtain ⟨A13, c13, g1, g2⟩ := hG.form
              obtain ⟨v, hv⟩ : ∃ v, inn e xs.length xs.length = v := ⟨_, rfl⟩
              have h14 : Y.heap[a14]? = some (.cells #[.int .i64 (v : Int)] 3 (0, 0)) := by rw [← hv]; exact hG.ex (a14, _) (List.mem_cons_self ..)
              have h15 : Y.heap[a15]? = some (.cells #[.bool true] 4 (0, 0)) := hG.ex (a15, _) (List.mem_cons_of_mem _ (List.mem_singleton.2 rfl))
              have k13 : Y.cell? ⟨a13, 0, none⟩ = some (.slice A13 xs.length c13) := by rw [cell_of_row Y _ 0 _ _ _ g1]; rfl
              have k14 : Y.cell? ⟨a14, 0, none⟩ = some (.int .i64 (v : Int)) := by rw [cell_of_row Y _ 0 _ _ _ h14]; rfl
              have k15 : Y.cell? ⟨a15, 0, none⟩ = some (.bool true) := by rw [cell_of_row Y _ 0 _ _ _ h15]; rfl
              have k3 := hgy.k3
              have k6 := hgy.k6
              obtain ⟨bw, how⟩ := hgy.want
              have HOK2 : Hid (RowLit.ok Y (A13, c13, xs) ∧ RowLit.ok Y (Aw, cw, xs)) := Lib.hid ⟨by
                have h := own_C g2
                exact ⟨h.1, h.2.1⟩, by
                have h := own_C how
                exact ⟨h.1, h.2.1⟩⟩
              have hmC : Y.heap[C]? = some (.deferred (some [])) := (hbY.block C (by rw [← HWC.out]; exact (Array.getElem?_eq_some_iff.1 HMK4.out).1)).trans HMK4.out
              have hne : C ≠ C2 := fun ek => by
                have h1 := (Array.getElem?_eq_some_iff.1 HMK4.out).1
                have h2 := HWC.out
                have h3 := HB2.out.1
                omega
              have HMC := Lib.hid (And.intro hmark (And.intro hmC hne))
              have HGY := Lib.hid hgy
              have HWCC : Hid (w.heap.size ≤ C ∧ w.heap.size ≤ C2) := Lib.hid (by
                have h1 := HGZ.out.below.size
                have h2 := HBZ.out
                have h3 := HCX.out
                have h4 := HG4.out.below.size
                have h5 := HWC.out
                have h6 := HB2.out.1
                omega)
              have FIN : Hid (∀ d, Below w.heap.size w (((Y.drewN d).putObj C2 (.deferred none)).putObj C (.deferred none))) := Lib.hid (fun d =>
                ⟨hgy.below.os, hgy.below.tape, hgy.below.output, by have := hgy.below.size; simpa [World.putObj] using this, fun k hk => (World.putObj_heap_other (by have := HWCC.out.1; omega)).trans ((World.putObj_heap_other (by have := HWCC.out.2; omega)).trans (hgy.below.block k hk))⟩)
              clear hG hbY hgy g1 g2 h14 h15 how hmC hne hmark hC2
              dsimp only
              by_cases hvn : v = xs.length
              · have d1 : ((v : Int) == (xs.length : Int)) = true := by rw [hvn]; exact beq_self_eq_true _
                clear hv hvn
                go_wp2_with (go_at_call 14; go_must (refine (same_rows _ (A13, c13, xs) (Aw, cw, xs) HOK2.out.1 HOK2.out.2 rfl (by show xs.length ≤ _; have := HLM.out; omega)).mono ?_; rintro e' V ⟨rfl, nd3, rfl⟩))
                exact leave_two (C := C2) (C2 := C) rfl HMC.out.1 HMC.out.2.1 HMC.out.2.2 ⟨rfl, FIN.out _⟩
              · have d1 : ((v : Int) == (xs.length : Int)) = false := by rw [beq_eq_false_iff_ne]; omega
                unfold inn at hv
                by_cases hee : 1 ≤ e ∧ e ≤ xs.length
                · rw [if_pos hee] at hv
                  exact absurd hv.symm hvn
                · rw [if_neg hee] at hv
                  have d2 : ((v : Int) == 0) = true := by rw [beq_iff_eq]; omega
                  by_cases he0 : e = 0
                  · have d3 : ((e : Int) == 0) = true := by rw [beq_iff_eq]; omega
                    clear hv hvn hee he0
                    go_wp2_with (go_at_call 14; go_must (refine (same_rows _ (A13, c13, xs) (Aw, cw, xs) HOK2.out.1 HOK2.out.2 rfl (by show xs.length ≤ _; have := HLM.out; omega)).mono ?_; rintro e' V ⟨rfl, nd3, rfl⟩))
                    exact leave_two (C := C2) (C2 := C) rfl HMC.out.1 HMC.out.2.1 HMC.out.2.2 ⟨rfl, FIN.out _⟩
                  · have d3 : ((e : Int) == 0) = false := by rw [beq_eq_false_iff_ne]; omega
                    have d4 : decide ((xs.length : Int) < (e : Int)) = true := decide_eq_true (by omega)
                    have d5 : decide (xs.length < e) = true := decide_eq_true (by omega)
                    clear hv hvn hee he0
                    go_wp2_with (go_at_call 14; go_must (refine (same_rows _ (A13, c13, xs) (Aw, cw, xs) HOK2.out.1 HOK2.out.2 rfl (by show xs.length ≤ _; have := HLM.out; omega)).mono ?_; rintro e' V ⟨rfl, nd3, rfl⟩))
                    exact leave_two (C := C2) (C2 := C) rfl HMC.out.1 HMC.out.2.1 HMC.out.2.2 ⟨rfl, FIN.out _⟩
end Go.Proofs.Ytojbfjfjhfnopaa.G
namespace Go.Proofs.Ytojbfjfjhfnopaa
open Go.RowKit Go.Proofs.YtojbfjfjhfnopaaW.PrintWords Go.Proofs.Ytojbfjfjhfnopaa.Reading G
theorem Walks.MergeGoes {w : World} (A0 : Option Addr) (c0 : Nat) (l0 : List (List S32)) (hC0 : Kd.C (Kd.slice 32 k32) w A0 l0.length l0) (hl0 : l0.length ≤ c0) (hg0 : (l0.length * 24 ≤ reach ∧ l0.length ≤ maxLen) ∧ ∀ xs ∈ l0, (xs.length * 24 ≤ reach ∧ xs.length ≤ maxLen) ∧ ∀ x ∈ xs, (Lit.int .u64 x.f0).wf = true ∧ (Lit.int .u64 x.f1).wf = true ∧ True)
    (a1 : Int) (w1 : (Lit.int .i64 a1).wf = true) (hb : l0.length + (l0.map List.length).sum ≤ 1048576) :
    Calls Try.prog 4 #[.slice A0 l0.length c0, .int .i64 a1] w fun e w' => e = .returned (.bool true) ∧ Below w.heap.size w w' :=
  goes_walk A0 c0 l0 a1 hC0 hl0 (by simp [Lit.wf, IntKind.min, IntKind.max, IntKind.signed, IntKind.bits] at w1; omega) hb
end Go.Proofs.Ytojbfjfjhfnopaa
end

section
/- The row of MergeGoes: for every input of bulk at most 1048576 the law answers true, and each argument reads as it did. Out of its walk (Walks.MergeGoes). -/
namespace Go.Proofs.Ytojbfjfjhfnopaa.rowMergeGoes
open Go.ChangeShapes Go.WideShapes Go.ChangeAt Go.RowKit Go.Proofs.Ytojbfjfjhfnopaa.Reading
open Go.ChangeMaps (open_string shut_string)
set_option linter.unusedVariables false
theorem own : ownKnob Try.prog.godebug = none := by kernel_rfl
theorem laidOut : laidOutB Try.prog = true := by kernel_rfl
set_option maxRecDepth 100000 in
theorem contract (H : Type) (enc : TypeId × Value → H) (W : World) (base : Nat) (args : Array Value) (ds gs : List (DataW H)) (before : List MemPlace)
    (hval0 : ∀ (j : Nat) t v, Try.f4.params[j]? = some t → args[j]? = some v → Value.okWide Try.prog W .any base t v)
    (hW : DataW.Whole enc Try.prog Try.f4.params.toList Rows.mergeGoesSpec.vars false W args.toList ds gs before) (hk0 : Rows.uptoSmall H (ds ++ gs) = true)
    (hsz0 : (DataW.weightsEach Try.prog (Try.f4.params.toList ++ Rows.mergeGoesSpec.plain.varTypes Try.prog) (ds ++ gs)).all (· ≤ reachBytes) = true) :
    Calls Try.prog 4 args W fun e W' => ∃ v, e = .returned v ∧ Rows.mergeGoesSpec.post enc Try.prog Try.f4 false true false false W args v W' := by
  have hval := hval0
  have hsz := hsz0
  have hW' := hW
  obtain ⟨p, q, hA0, hV, rfl, hfz, hnd⟩ := hW
  have hA : DataW.TrodAll enc Try.prog W 0 (fun _ => true) true Try.f4.params.toList args.toList ds p := hA0
  rw [Try.params4] at hA hval hsz
  obtain ⟨v0, vs0, d0, ds0, p0, q0, hargs, rfl, rfl, h0, r0⟩ := trodAll_cons hA
  obtain ⟨v1, vs1, d1, ds1, p1, q1, rfl, rfl, rfl, h1, r1⟩ := trodAll_cons r0
  obtain ⟨rfl, rfl, rfl⟩ := trodAll_nil r1
  obtain rfl : args = #[v0, v1] := by cases args; simp_all
  obtain ⟨rfl, rfl⟩ := trodVars_none hV
  have hwt := weights_at hsz
  have hk : Rows.uptoBulkAll (d0 :: d1 :: ([] : List (DataW H))) ≤ 1048576 := by
    have h := of_decide_eq_true hk0
    simpa using h
  have k0 := h0
  have lt0 : ∀ x ∈ p0, x.block < W.heap.size := by obtain ⟨m, hm⟩ := k0; exact DataW.trod_lt m _ _ _ hm
  have wt0 : ∀ n ∈ DataW.weights Try.prog 22 d0, n ≤ reach := fun n hn => hwt n (by simp only [List.cons_append, List.nil_append, List.append_nil, DataW.weightsEach, List.mem_append]; first | exact hn | exact (.inl hn) | exact hn)
  obtain ⟨A0, c0, l0, rfl, hl0, hC0, hg0, hb0⟩ := slice_top (okWide_slice' Try.underlying22 (hval 0 22 v0 rfl rfl)) (open22 enc W 0 (fun _ => true) true) h0 wt0
  have k1 := h1
  have lt1 : ∀ x ∈ p1, x.block < W.heap.size := by obtain ⟨m, hm⟩ := k1; exact DataW.trod_lt m _ _ _ hm
  have wt1 : ∀ n ∈ DataW.weights Try.prog 3 d1, n ≤ reach := fun n hn => hwt n (by simp only [List.cons_append, List.nil_append, List.append_nil, DataW.weightsEach, List.mem_append]; first | exact hn | exact (.inr (.inl hn)) | exact (.inr hn))
  obtain ⟨a1, rfl, rfl, rfl, w1⟩ := open_int Try.underlying3 (hval 1 3 v1 rfl rfl) h1
  simp only [Rows.uptoBulkAll] at hk
  clear hA0 hval0 hsz0 hsz
  refine (Walks.MergeGoes A0 c0 l0 hC0 hl0 hg0 a1 w1 (by omega)).mono fun e W' ⟨he, bel⟩ => ?_
  subst he
  exact ⟨_, rfl, _, _, _, [], _, [], hW', trodAll_mk1 (shut_bool Try.underlying4 _), (trodAll_cons_mk (Below.trod laidOut (by kernel_rfl) (of_decide_eq_true (by kernel_rfl)) k0 bel lt0) (trodAll_cons_mk (Below.trod laidOut (by kernel_rfl) (of_decide_eq_true (by kernel_rfl)) k1 bel lt1) trodAll_mk0)), rfl, bel.frame _, fun h => by cases h⟩
set_option maxRecDepth 100000 in
theorem lifted (os : Os) (started : os.Started) (H : Type) (enc : TypeId × Value → H) (F : Stop.Interp) :
    ReturnsInHanded {} Try.checked os 4 .any ((Rows.OpenSpec.upto Rows.mergeGoesSpec).pre6 enc Try.prog Try.f4 Rows.mergeGoesUptoRow.domain false) (((Rows.OpenSpec.upto Rows.mergeGoesSpec).at F).post enc Try.prog Try.f4 false true false false) := by
  refine returnsInHanded_of_cond_sized (C := Try.checked) (s := (Rows.OpenSpec.upto Rows.mergeGoesSpec)) (k := Rows.uptoSmall) rfl own started (by kernel_rfl) Try.func4
    (OpenSpec.witness (enc := enc) (C := Try.checked) (s := (Rows.OpenSpec.upto Rows.mergeGoesSpec)) (k := Rows.uptoSmall) rfl false ⟨#[], #[.slice none 0 0, .int .i64 0], []⟩ 8 (by kernel_rfl) (by kernel_rfl) (by kernel_rfl) (x := ([.nil, .lit (.int .i64 0)], [], [])) (by kernel_rfl) rfl (by kernel_rfl)) ?_
  intro W base args ds gs before hval hW _ hk hsz _
  exact contract H enc W base args ds gs before hval hW hk hsz
theorem over : Rows.mergeGoesUptoRow.holds Try.pinned (Rows.OpenSpec.upto Rows.mergeGoesSpec) :=
  OpenClaim.holds_of_cond 4 Try.f4 rfl rfl rfl rfl rfl rfl rfl ⟨rfl, rfl, rfl, rfl, rfl⟩ rfl rfl rfl rfl rfl (by kernel_rfl) Try.func4 (by kernel_rfl)
    (of_decide_eq_true (by kernel_rfl)) (by unfold Func.isWrapper; first | (rw [if_pos (by decide +kernel)]; kernel_rfl) | (rw [if_neg (by decide +kernel)]; exact ⟨rfl, rfl⟩))
    (fun os started H enc _ F => lifted os started H enc F)
end Go.Proofs.Ytojbfjfjhfnopaa.rowMergeGoes
namespace Go.Proofs.Ytojbfjfjhfnopaa
/-- The row. -/
theorem mergeGoes_holds : Rows.MergeGoesUptoSaid := rowMergeGoes.over
#print axioms mergeGoes_holds
end Go.Proofs.Ytojbfjfjhfnopaa
end
