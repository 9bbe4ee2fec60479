/- Some of the claim's own texts, in one file: Gx17, PureOnce, RowsLit, WalkGroups, LiveW, WalkSifted, CopyW, WereW, RefSift. Conditions: each theorem's own. -/
import Derived.Test.YtojbfjfjhfnopaaZBase1
import Derived.Test.YtojbfjfjhfnopaaZBase2
import Derived.Test.YtojbfjfjhfnopaaZBase3
section
-- Written by a program of this session (wip/gprint.py: the kit's print, with contracts proved by hand)
namespace Go.Proofs.Ytojbfjfjhfnopaa.G
open Go.RowKit Go.Proofs.YtojbfjfjhfnopaaW.PrintWords Go.Proofs.YtojbfjfjhfnopaaW.PrintLast Go.Proofs.YtojbfjfjhfnopaaW.PrintMore
attribute [local go_sem] max2_int min2_int max_two min_two max_three min_three max_four min_four   -- for this text's walks alone
set_option linter.unusedVariables false
set_option linter.unusedSimpArgs false

attribute [local go_sem high] eqA32
/-! ### inclinelaw13_MergeOnce: function 7 -/
mutual
def inclinelaw13_MergeOnce.l0 : Nat → List (List (S32)) → Bool → List (S32) → Int → Int → Option (Bool)
  | 0, _, _, _, _, _ => none
  | k + 1, x0, x3, x4, x5, x6 => if x6 < (x0.length : Int) then (if 0 ≤ x6 then (if ((rd_L3 x0 x6).length : Int) > (x4.length : Int) then (none) else (inclinelaw13_MergeOnce.l1 k x0 x3 x4 (wrap64 (x5 + ((rd_L3 x0 x6).length : Int))) x6 0)) else (none)) else (if x3 = true then (if (x4.length : Int) ≤ x5 then ((inclineref03_Of.f k x4).bind fun t237 => ((inclineref03_Rising.f k t237).bind fun t240 => (some t240))) else (none)) else (none))
def inclinelaw13_MergeOnce.l1 : Nat → List (List (S32)) → Bool → List (S32) → Int → Int → Int → Option (Bool)
  | 0, _, _, _, _, _, _ => none
  | k + 1, x0, x3, x4, x5, x6, x7 => if 0 ≤ x6 then (if x6 < (x0.length : Int) then (if x7 < ((rd_L3 x0 x6).length : Int) then ((inclineref03_Of.f k x4).bind fun t244 => (if 0 ≤ x7 then ((inclineref03_Rank.f k t244 ((rd_T32 (rd_L3 x0 x6) x7).f0)).bind fun bt249 => (if bt249.2 = true then (inclinelaw13_MergeOnce.l2 k x0 x3 x4 x5 x6 x7 bt249.1 true 0) else (none))) else (none))) else (inclinelaw13_MergeOnce.l0 k x0 x3 x4 x5 (wrap64 (x6 + 1)))) else (none)) else (none)
def inclinelaw13_MergeOnce.l2 : Nat → List (List (S32)) → Bool → List (S32) → Int → Int → Int → Int → Bool → Int → Option (Bool)
  | 0, _, _, _, _, _, _, _, _, _ => none
  | k + 1, x0, x3, x4, x5, x6, x7, x8, x10, x11 => if x11 < x6 then (if 0 ≤ x11 then (if x11 < (x0.length : Int) then ((inclineref03_Of.f k (rd_L3 x0 x11)).bind fun t252 => (if 0 ≤ x6 then (if x6 < (x0.length : Int) then (if 0 ≤ x7 then (if x7 < ((rd_L3 x0 x6).length : Int) then ((inclineref03_Rank.f k t252 ((rd_T32 (rd_L3 x0 x6) x7).f0)).bind fun bt257 => (if x10 = true then (inclinelaw13_MergeOnce.l2 k x0 x3 x4 x5 x6 x7 x8 (!bt257.2) (wrap64 (x11 + 1))) else (inclinelaw13_MergeOnce.l2 k x0 x3 x4 x5 x6 x7 x8 false (wrap64 (x11 + 1))))) else (none)) else (none)) else (none)) else (none))) else (none)) else (none)) else (if x10 = true then (if 0 ≤ x8 then (if x8 < (x4.length : Int) then (if 0 ≤ x6 then (if x6 < (x0.length : Int) then (if 0 ≤ x7 then (if x7 < ((rd_L3 x0 x6).length : Int) then (if (!(((rd_T32 x4 x8).f0) == ((rd_T32 (rd_L3 x0 x6) x7).f0)) || (!(((rd_T32 x4 x8).f1) == ((rd_T32 (rd_L3 x0 x6) x7).f1)) || (!(((rd_T32 x4 x8).f2) == ((rd_T32 (rd_L3 x0 x6) x7).f2))))) = true then (none) else (inclinelaw13_MergeOnce.l1 k x0 x3 x4 x5 x6 (wrap64 (x7 + 1)))) else (none)) else (none)) else (none)) else (none)) else (none)) else (none)) else (inclinelaw13_MergeOnce.l1 k x0 x3 x4 x5 x6 (wrap64 (x7 + 1))))
end
def inclinelaw13_MergeOnce.f (k : Nat) (l0 : List (List (S32))) : Option (Bool) := (inclinelaw13_shown.f).bind fun t232 => (if t232 = true then ((merge_Entries.f l0).bind fun t233 => ((inclinelaw13_rising.f k l0).bind fun t236 => (if t236 = true then (inclinelaw13_MergeOnce.l0 k l0 t232 t233 0 0) else (some t232)))) else (none))
theorem inclinelaw13_MergeOnce.mono_l : ∀ k, (∀ y0 y1 y2 y3 y4, LeO (inclinelaw13_MergeOnce.l0 k y0 y1 y2 y3 y4) (inclinelaw13_MergeOnce.l0 (k + 1) y0 y1 y2 y3 y4)) ∧ (∀ y0 y1 y2 y3 y4 y5, LeO (inclinelaw13_MergeOnce.l1 k y0 y1 y2 y3 y4 y5) (inclinelaw13_MergeOnce.l1 (k + 1) y0 y1 y2 y3 y4 y5)) ∧ (∀ y0 y1 y2 y3 y4 y5 y6 y7 y8, LeO (inclinelaw13_MergeOnce.l2 k y0 y1 y2 y3 y4 y5 y6 y7 y8) (inclinelaw13_MergeOnce.l2 (k + 1) y0 y1 y2 y3 y4 y5 y6 y7 y8))
  | 0 => ⟨fun _ _ _ _ _ r h => by simp [inclinelaw13_MergeOnce.l0] at h, fun _ _ _ _ _ _ r h => by simp [inclinelaw13_MergeOnce.l1] at h, fun _ _ _ _ _ _ _ _ _ r h => by simp [inclinelaw13_MergeOnce.l2] at h⟩
  | k + 1 => by
    obtain ⟨ih0, ih1, ih2⟩ := inclinelaw13_MergeOnce.mono_l k
    refine ⟨?_, ?_, ?_⟩
    · intro y0 y1 y2 y3 y4
      unfold inclinelaw13_MergeOnce.l0
      repeat' first
      | (with_reducible exact ih0 _ _ _ _ _)
      | (with_reducible exact ih1 _ _ _ _ _ _)
      | (with_reducible exact ih2 _ _ _ _ _ _ _ _ _)
      | (with_reducible exact inclinelaw13_rising.mono _ _)
      | (with_reducible exact inclineref03_Of.mono _ _)
      | (with_reducible exact inclineref03_Rank.mono _ _ _)
      | (with_reducible exact inclineref03_Rising.mono _ _)
      | (with_reducible exact LeO.refl _)
      | (with_reducible exact LeO.none _)
      | (with_reducible refine LeO.ite ?_ ?_)
      | (with_reducible refine LeO.bind ?_ (fun _ => ?_))
      | exact ih0 _ _ _ _ _
      | exact ih1 _ _ _ _ _ _
      | exact ih2 _ _ _ _ _ _ _ _ _
      | exact inclinelaw13_rising.mono _ _
      | exact inclineref03_Of.mono _ _
      | exact inclineref03_Rank.mono _ _ _
      | exact inclineref03_Rising.mono _ _
      | exact LeO.none _
      | refine LeO.ite ?_ ?_
      | refine LeO.bind ?_ (fun _ => ?_)
    · intro y0 y1 y2 y3 y4 y5
      unfold inclinelaw13_MergeOnce.l1
      repeat' first
      | (with_reducible exact ih0 _ _ _ _ _)
      | (with_reducible exact ih1 _ _ _ _ _ _)
      | (with_reducible exact ih2 _ _ _ _ _ _ _ _ _)
      | (with_reducible exact inclinelaw13_rising.mono _ _)
      | (with_reducible exact inclineref03_Of.mono _ _)
      | (with_reducible exact inclineref03_Rank.mono _ _ _)
      | (with_reducible exact inclineref03_Rising.mono _ _)
      | (with_reducible exact LeO.refl _)
      | (with_reducible exact LeO.none _)
      | (with_reducible refine LeO.ite ?_ ?_)
      | (with_reducible refine LeO.bind ?_ (fun _ => ?_))
      | exact ih0 _ _ _ _ _
      | exact ih1 _ _ _ _ _ _
      | exact ih2 _ _ _ _ _ _ _ _ _
      | exact inclinelaw13_rising.mono _ _
      | exact inclineref03_Of.mono _ _
      | exact inclineref03_Rank.mono _ _ _
      | exact inclineref03_Rising.mono _ _
      | exact LeO.none _
      | refine LeO.ite ?_ ?_
      | refine LeO.bind ?_ (fun _ => ?_)
    · intro y0 y1 y2 y3 y4 y5 y6 y7 y8
      unfold inclinelaw13_MergeOnce.l2
      repeat' first
      | (with_reducible exact ih0 _ _ _ _ _)
      | (with_reducible exact ih1 _ _ _ _ _ _)
      | (with_reducible exact ih2 _ _ _ _ _ _ _ _ _)
      | (with_reducible exact inclinelaw13_rising.mono _ _)
      | (with_reducible exact inclineref03_Of.mono _ _)
      | (with_reducible exact inclineref03_Rank.mono _ _ _)
      | (with_reducible exact inclineref03_Rising.mono _ _)
      | (with_reducible exact LeO.refl _)
      | (with_reducible exact LeO.none _)
      | (with_reducible refine LeO.ite ?_ ?_)
      | (with_reducible refine LeO.bind ?_ (fun _ => ?_))
      | exact ih0 _ _ _ _ _
      | exact ih1 _ _ _ _ _ _
      | exact ih2 _ _ _ _ _ _ _ _ _
      | exact inclinelaw13_rising.mono _ _
      | exact inclineref03_Of.mono _ _
      | exact inclineref03_Rank.mono _ _ _
      | exact inclineref03_Rising.mono _ _
      | exact LeO.none _
      | refine LeO.ite ?_ ?_
      | refine LeO.bind ?_ (fun _ => ?_)
theorem inclinelaw13_MergeOnce.mono : ∀ a0 k, LeO (inclinelaw13_MergeOnce.f k a0) (inclinelaw13_MergeOnce.f (k + 1) a0) := by
  intro a0 k
  obtain ⟨ih0, ih1, ih2⟩ := inclinelaw13_MergeOnce.mono_l k
  unfold inclinelaw13_MergeOnce.f
  repeat' first
      | (with_reducible exact ih0 _ _ _ _ _)
      | (with_reducible exact ih1 _ _ _ _ _ _)
      | (with_reducible exact ih2 _ _ _ _ _ _ _ _ _)
      | (with_reducible exact inclinelaw13_rising.mono _ _)
      | (with_reducible exact inclineref03_Of.mono _ _)
      | (with_reducible exact inclineref03_Rank.mono _ _ _)
      | (with_reducible exact inclineref03_Rising.mono _ _)
      | (with_reducible exact LeO.refl _)
      | (with_reducible exact LeO.none _)
      | (with_reducible refine LeO.ite ?_ ?_)
      | (with_reducible refine LeO.bind ?_ (fun _ => ?_))
      | exact ih0 _ _ _ _ _
      | exact ih1 _ _ _ _ _ _
      | exact ih2 _ _ _ _ _ _ _ _ _
      | exact inclinelaw13_rising.mono _ _
      | exact inclineref03_Of.mono _ _
      | exact inclineref03_Rank.mono _ _ _
      | exact inclineref03_Rising.mono _ _
      | exact LeO.none _
      | refine LeO.ite ?_ ?_
      | refine LeO.bind ?_ (fun _ => ?_)
def inclinelaw13_MergeOnce.T17 : Bool × List (List Nat × List Nat) := (true, [([], []), ([0], [0]), ([], []), ([], []), ([2, 3], [2, 3]), ([4], [4]), ([], []), ([5, 6], [5, 6]), ([7], [7]), ([8], [8]), ([1, 9, 1], [1, 9]), ([10], [10]), ([11], [11]), ([11], [11]), ([12, 10, 0, 1, 2, 3, 4, 5, 6, 7, 8, 9, 10, 11, 12], [12]), ([13, 14, 0, 1, 2, 3, 4, 5, 6, 7, 8, 9, 10, 11, 12, 13, 14], [13])])
def inclinelaw13_MergeOnce.B17 : List Nat := [0, 1, 0, 0, 12, 28, 0, 124, 252, 508, 1023, 2047, 4095, 4095, 8191, 32767]
theorem inclinelaw13_MergeOnce.tab17 : rtab .any (opsOf Try.f7 17) = inclinelaw13_MergeOnce.T17 := by kernel_rfl
theorem inclinelaw13_MergeOnce.bits17 : waitsOk inclinelaw13_MergeOnce.T17.2 inclinelaw13_MergeOnce.B17 = true := by kernel_rfl
def inclinelaw13_MergeOnce.T24 : Bool × List (List Nat × List Nat) := (true, [([], []), ([], []), ([0, 1], [0, 1]), ([2], [2]), ([3], [3]), ([], []), ([], []), ([5, 6], [5, 6]), ([7], [7]), ([], []), ([8, 9], [8, 9]), ([10], [10]), ([11], [11]), ([4, 12, 4], [4, 12]), ([13], [13]), ([14], [14]), ([14], [14]), ([15, 13, 0, 1, 2, 3, 4, 5, 6, 7, 8, 9, 10, 11, 12, 13, 14, 15], [15]), ([16, 17, 0, 1, 2, 3, 4, 5, 6, 7, 8, 9, 10, 11, 12, 13, 14, 15, 16, 17], [16])])
def inclinelaw13_MergeOnce.B24 : List Nat := [0, 0, 3, 7, 15, 0, 0, 96, 224, 0, 992, 2016, 4064, 8191, 16383, 32767, 32767, 65535, 262143]
theorem inclinelaw13_MergeOnce.tab24 : rtab .any (opsOf Try.f7 24) = inclinelaw13_MergeOnce.T24 := by kernel_rfl
theorem inclinelaw13_MergeOnce.bits24 : waitsOk inclinelaw13_MergeOnce.T24.2 inclinelaw13_MergeOnce.B24 = true := by kernel_rfl
def inclinelaw13_MergeOnce.T26 : Bool × List (List Nat × List Nat) := (true, [([], []), ([0], [0]), ([1], [1]), ([1], [1]), ([2, 3, 1], [1, 2, 3]), ([4, 1], [1, 4]), ([1], [1]), ([1], [1]), ([6, 7, 1], [1, 6, 7]), ([8, 1], [1, 8]), ([1], [1]), ([9, 10, 1], [1, 9, 10]), ([11, 1], [1, 11]), ([5, 12, 1], [1, 5, 12]), ([1, 13], [1, 13])])
def inclinelaw13_MergeOnce.B26 : List Nat := [0, 1, 3, 3, 15, 31, 3, 3, 195, 451, 3, 1987, 4035, 8191, 16383]
theorem inclinelaw13_MergeOnce.tab26 : rtab .any (opsOf Try.f7 26) = inclinelaw13_MergeOnce.T26 := by kernel_rfl
theorem inclinelaw13_MergeOnce.bits26 : waitsOk inclinelaw13_MergeOnce.T26.2 inclinelaw13_MergeOnce.B26 = true := by kernel_rfl
set_option maxHeartbeats 8000000 in
set_option maxRecDepth 100000 in
theorem inclinelaw13_MergeOnce.calls (k : Nat) (A0 : Option Addr) (c0 : Nat) (l0 : List (List (S32))) (r : Bool) (w : World) (hr0 : Kd.C (Kd.slice 32 k32) w A0 l0.length l0) (hc0 : l0.length ≤ c0) (h : inclinelaw13_MergeOnce.f k l0 = some r) :
    Calls Try.prog 7 #[.slice A0 l0.length c0] w fun e w' => e = .returned (.bool r) ∧ Below w.heap.size w w' := by
  have hu32 := Try.underlying32
  have HR0 := Aside0.mk hr0
  have HC0 := Aside0.mk hc0
  clear hr0 hc0
  have HB := Aside0.mk (Below.refl w.heap.size w)
  have H : ((inclinelaw13_shown.f).bind fun t232 => (if t232 = true then ((merge_Entries.f l0).bind fun t233 => ((inclinelaw13_rising.f k l0).bind fun t236 => (if t236 = true then (inclinelaw13_MergeOnce.l0 k l0 t232 t233 0 0) else (some t232)))) else (none))) = some r := h
  clear h
  replace H := Option.bind_eq_some_iff.mp H
  obtain ⟨t232, A20, H⟩ := H
  replace H : (if t232 = true then ((merge_Entries.f l0).bind fun t233 => ((inclinelaw13_rising.f k l0).bind fun t236 => (if t236 = true then (inclinelaw13_MergeOnce.l0 k l0 t232 t233 0 0) else (some t232)))) else (none)) = some r := H
  have A2 := Aside0.mk A20
  clear A20
  by_cases c3 : t232 = true
  · subst c3
    have H1 : ((merge_Entries.f l0).bind fun t233 => ((inclinelaw13_rising.f k l0).bind fun t236 => (if t236 = true then (inclinelaw13_MergeOnce.l0 k l0 true t233 0 0) else (some true)))) = some r := by rw [if_pos rfl] at H; exact H
    clear H
    have H := H1
    clear H1
    replace H := Option.bind_eq_some_iff.mp H
    obtain ⟨t233, A40, H⟩ := H
    replace H : ((inclinelaw13_rising.f k l0).bind fun t236 => (if t236 = true then (inclinelaw13_MergeOnce.l0 k l0 true t233 0 0) else (some true))) = some r := H
    have A4 := Aside0.mk A40
    clear A40
    replace H := Option.bind_eq_some_iff.mp H
    obtain ⟨t236, A50, H⟩ := H
    replace H : (if t236 = true then (inclinelaw13_MergeOnce.l0 k l0 true t233 0 0) else (some true)) = some r := H
    have A5 := Aside0.mk A50
    clear A50
    by_cases c6 : t236 = true
    · subst c6
      have H1 : (inclinelaw13_MergeOnce.l0 k l0 true t233 0 0) = some r := by rw [if_pos rfl] at H; exact H
      clear H
      have H := H1
      clear H1
      have H' := Aside0.mk H
      clear H
      go_enter Try.func7, Try.ntmps7
      go_wp2_with (first | ((with_reducible refine gate_callee (f := 10) rfl ?_); refine goesL_ (some 14) rfl rfl Try.func10 (by kernel_rfl) rfl #[] rfl (by (try simp only [List.map_toArray, List.map_cons, List.map_nil]); first | done | rfl | (simp only [List.length_drop, List.length_take]; rfl)) ?_; (with_reducible refine (inclinelaw13_shown.calls  true _ A2.out).mono ?_); rintro e w7 ⟨rfl, hb⟩; refine ⟨_, rfl, ?_⟩; have n0_ := Aside0.mk (below_step (by repeat (first | (with_reducible first | exact HB.out | apply below_alloc | apply pw_below_drewN | apply below_drew1) | exact HB.out)) hb); clear HB; have HB := n0_; clear n0_; (try clear hb); (try clear hb2); (try clear hk); (try clear hi)) | ((with_reducible refine gate_callee (f := 13) rfl ?_); refine goesL_ (some 18) rfl rfl Try.func13 (by kernel_rfl) rfl #[.slice A0 l0.length c0] rfl (by (try simp only [List.map_toArray, List.map_cons, List.map_nil]); first | done | rfl | (simp only [List.length_drop, List.length_take]; rfl)) ?_; (with_reducible refine (merge_Entries.calls _ _ l0 t233 _ ?side1 ?side2 A4.out).mono ?_); (case side1 => repeat (first | exact (Kd.C_below HR0.out HB.out) | (with_reducible refine Kd.C_alloc ?_ _) | (with_reducible refine Kd.C_drewN ?_ _) | (with_reducible refine Kd.C_drew ?_))); (case side2 => exact HC0.out); rintro e w8 ⟨v234, rfl, ho0, hb⟩; refine ⟨_, rfl, ?_⟩; have n0_ := Aside0.mk (Kd.R_lower ho0 (below_size (by repeat (first | (with_reducible first | exact HB.out | apply below_alloc | apply pw_below_drewN | apply below_drew1) | exact HB.out)))); have n1_ := Aside0.mk (below_step (by repeat (first | (with_reducible first | exact HB.out | apply below_alloc | apply pw_below_drewN | apply below_drew1) | exact HB.out)) hb); clear HB; have HO235 := n0_; have HB := n1_; clear n0_ n1_; (try clear hb); (try clear hb2); (try clear hk); (try clear hi); (try clear ho0)) | ((with_reducible refine gate_callee (f := 27) rfl ?_); refine goesL_ (some 20) rfl rfl Try.func27 (by kernel_rfl) rfl #[.slice A0 l0.length c0] rfl (by (try simp only [List.map_toArray, List.map_cons, List.map_nil]); first | done | rfl | (simp only [List.length_drop, List.length_take]; rfl)) ?_; (with_reducible refine (inclinelaw13_rising.calls k _ _ l0 true _ ?side1 ?side2 A5.out).mono ?_); (case side1 => repeat (first | exact (Kd.C_below HR0.out HB.out) | (with_reducible refine Kd.C_alloc ?_ _) | (with_reducible refine Kd.C_drewN ?_ _) | (with_reducible refine Kd.C_drew ?_))); (case side2 => exact HC0.out); rintro e w9 ⟨rfl, hb⟩; refine ⟨_, rfl, ?_⟩; have n0_ := Aside0.mk (Kd.R_below (by (with_reducible repeat (first | apply Kd.R_alloc | apply Kd.R_drewN | apply Kd.R_drew)); exact HO235.out) hb); have n1_ := Aside0.mk (below_step (by repeat (first | (with_reducible first | exact HB.out | apply below_alloc | apply pw_below_drewN | apply below_drew1) | exact HB.out)) hb); clear HO235; clear HB; have HO235 := n0_; have HB := n1_; clear n0_ n1_; (try clear hb); (try clear hb2); (try clear hk); (try clear hi)))
      go_loopg [5, 6] k (fun kq v5 v6 w' => ∃ (x5_1 : Int) (x6_1 : Int), v5 = .int .i64 x5_1 ∧ v6 = .int .i64 x6_1 ∧ Aside0 (inclinelaw13_MergeOnce.l0 kq l0 true t233 x5_1 x6_1 = some r) ∧ Aside0 (kq ≤ k) ∧ Aside0 (Kd.R k32 32 w' w.heap.size (fun _ => True) v234 t233) ∧ Aside0 (Below w.heap.size w w'))
      case atStart => exact ⟨(0), (0), (by first | rfl | (simp; done) | (simp [*]; done)), (by first | rfl | (simp; done) | (simp [*]; done)), H', ⟨Nat.le_refl _⟩, ⟨by (with_reducible repeat (first | apply Kd.R_alloc | apply Kd.R_drewN | apply Kd.R_drew)); exact HO235.out⟩, ⟨by repeat (first | (with_reducible first | exact HB.out | apply below_alloc | apply pw_below_drewN | apply below_drew1) | exact HB.out)⟩⟩
      case round =>
        clear H'
        try clear c1
        try clear c2
        try clear p2
        try clear c3
        try clear c6
        try clear c7
        obtain ⟨x5_1, x6_1, rfl, rfl, HA, HK1, HO_4, HB⟩ := hrel
        cases gk with
        | zero => exact absurd HA.out (by simp [inclinelaw13_MergeOnce.l0])
        | succ k1 =>
          have H := HA.out
          clear HA
          simp only [inclinelaw13_MergeOnce.l0] at H
          by_cases c10 : x6_1 < (l0.length : Int)
          · rw [if_pos c10] at H
            have c10b0 : decide (x6_1 < (l0.length : Int)) = true := decide_eq_true c10
            clear c10
            by_cases c11 : 0 ≤ x6_1
            · rw [if_pos c11] at H
              have c11b0 : decide (0 ≤ x6_1) = true := decide_eq_true c11
              clear c11
              by_cases c12 : ((rd_L3 l0 x6_1).length : Int) > (t233.length : Int)
              · rw [if_pos c12] at H
                exact absurd H (by simp)
              · rw [if_neg c12] at H
                have c12b0 : decide ((t233.length : Int) < ((rd_L3 l0 x6_1).length : Int)) = false := decide_eq_false c12
                have c12b1 : decide (t233.length < (rd_L3 l0 x6_1).length) = false := decide_eq_false (fun h => c12 (Int.ofNat_lt.mpr h))
                clear c12
                have H' := Aside0.mk H
                clear H
                have p241 : 0 ≤ (x6_1 : Int) := of_decide_eq_true (by first | (with_reducible assumption) | assumption)
                have q241 : x6_1 < (l0.length : Int) := of_decide_eq_true (by first | (with_reducible assumption) | assumption)
                obtain ⟨ad241, A241_0, c241_0, e241, hx241_0, hl241_0, hi241_0⟩ := at_L3 HR0.out x6_1 p241 q241
                cases e241
                replace hx241_0 := (HB.out.cell (World.block_lt_of_cell? w _ hx241_0)).trans hx241_0
                have HR241_0 := Aside0.mk hi241_0
                have HC241_0 := Aside0.mk hl241_0
                clear hi241_0 hl241_0
                replace p241 := eq_true p241
                replace q241 := eq_true q241
                have p242 : 0 ≤ (x6_1 : Int) := of_decide_eq_true (by first | (with_reducible assumption) | assumption)
                have q242 : x6_1 < (l0.length : Int) := of_decide_eq_true (by first | (with_reducible assumption) | assumption)
                obtain ⟨ad242, A242_0, c242_0, e242, hx242_0, hl242_0, hi242_0⟩ := at_L3 HR0.out x6_1 p242 q242
                obtain rfl : ad241 = ad242 := (by injection e242)
                replace hx242_0 := (HB.out.cell (World.block_lt_of_cell? w _ hx242_0)).trans hx242_0
                have HR242_0 := Aside0.mk hi242_0
                have HC242_0 := Aside0.mk hl242_0
                clear hi242_0 hl242_0
                replace p242 := eq_true p242
                replace q242 := eq_true q242
                have ea_ := Option.some.inj (hx241_0.symm.trans hx242_0)
                injection ea_ with ea_ en_ ec_
                subst ea_
                subst ec_
                clear en_
                obtain ⟨Ao13, co13, eo13⟩ := Kd.R_slice HO_4.out
                subst eo13
                go_wp2
                go_loopg [7] k1 (fun kq v7 w' => ∃ (x7_2 : Int), v7 = .int .i64 x7_2 ∧ Aside0 (inclinelaw13_MergeOnce.l1 kq l0 true t233 (wrap64 (x5_1 + ((rd_L3 l0 x6_1).length : Int))) x6_1 x7_2 = some r) ∧ Aside0 (kq ≤ k1) ∧ Aside0 (Kd.R k32 32 w' w.heap.size (fun _ => True) (.slice Ao13 t233.length co13) t233) ∧ Aside0 (Below w.heap.size w w'))
                case atStart => exact ⟨(0), (by first | rfl | (simp; done) | (simp [*]; done)), H', ⟨Nat.le_refl _⟩, ⟨by (with_reducible repeat (first | apply Kd.R_alloc | apply Kd.R_drewN | apply Kd.R_drew)); exact HO_4.out⟩, ⟨by repeat (first | (with_reducible first | exact HB.out | apply below_alloc | apply pw_below_drewN | apply below_drew1) | exact HB.out)⟩⟩
                case round =>
                  clear H'
                  try clear c1
                  try clear c2
                  try clear p2
                  try clear q2
                  try clear hx2
                  try clear c3
                  try clear c6
                  try clear p6
                  try clear c7
                  try clear c10
                  try clear c10b0
                  try clear c11
                  try clear c11b0
                  try clear c12
                  try clear c12b0
                  try clear c12b1
                  try clear c13
                  try clear hx241_0
                  try clear hx242_0
                  try clear p2
                  try clear p241
                  try clear p242
                  try clear q241
                  try clear q242
                  obtain ⟨x7_2, rfl, HA, HK2, HO_4, HB⟩ := hrel
                  cases gk with
                  | zero => exact absurd HA.out (by simp [inclinelaw13_MergeOnce.l1])
                  | succ k2 =>
                    have H := HA.out
                    clear HA
                    simp only [inclinelaw13_MergeOnce.l1] at H
                    by_cases c14 : 0 ≤ x6_1
                    · rw [if_pos c14] at H
                      have c14b0 : decide (0 ≤ x6_1) = true := decide_eq_true c14
                      clear c14
                      by_cases c15 : x6_1 < (l0.length : Int)
                      · rw [if_pos c15] at H
                        have c15b0 : decide (x6_1 < (l0.length : Int)) = true := decide_eq_true c15
                        clear c15
                        by_cases c16 : x7_2 < ((rd_L3 l0 x6_1).length : Int)
                        · rw [if_pos c16] at H
                          have c16b0 : decide (x7_2 < ((rd_L3 l0 x6_1).length : Int)) = true := decide_eq_true c16
                          clear c16
                          replace H := Option.bind_eq_some_iff.mp H
                          obtain ⟨t244, A170, H⟩ := H
                          replace H : (if 0 ≤ x7_2 then ((inclineref03_Rank.f k2 t244 ((rd_T32 (rd_L3 l0 x6_1) x7_2).f0)).bind fun bt249 => (if bt249.2 = true then (inclinelaw13_MergeOnce.l2 k2 l0 true t233 (wrap64 (x5_1 + ((rd_L3 l0 x6_1).length : Int))) x6_1 x7_2 bt249.1 true 0) else (none))) else (none)) = some r := H
                          have A17 := Aside0.mk A170
                          clear A170
                          by_cases c18 : 0 ≤ x7_2
                          · rw [if_pos c18] at H
                            have c18b0 : decide (0 ≤ x7_2) = true := decide_eq_true c18
                            clear c18
                            replace H := Option.bind_eq_some_iff.mp H
                            obtain ⟨⟨t249, t250⟩, A190, H⟩ := H
                            replace H : (if t250 = true then (inclinelaw13_MergeOnce.l2 k2 l0 true t233 (wrap64 (x5_1 + ((rd_L3 l0 x6_1).length : Int))) x6_1 x7_2 t249 true 0) else (none)) = some r := H
                            have A19 := Aside0.mk A190
                            clear A190
                            by_cases c20 : t250 = true
                            · subst c20
                              have H1 : (inclinelaw13_MergeOnce.l2 k2 l0 true t233 (wrap64 (x5_1 + ((rd_L3 l0 x6_1).length : Int))) x6_1 x7_2 t249 true 0) = some r := by rw [if_pos rfl] at H; exact H
                              clear H
                              have H := H1
                              clear H1
                              have H' := Aside0.mk H
                              clear H
                              have p243 : 0 ≤ (x6_1 : Int) := of_decide_eq_true (by first | (with_reducible assumption) | assumption)
                              have q243 : x6_1 < (l0.length : Int) := of_decide_eq_true (by first | (with_reducible assumption) | assumption)
                              obtain ⟨ad243, A243_0, c243_0, e243, hx243_0, hl243_0, hi243_0⟩ := at_L3 HR0.out x6_1 p243 q243
                              obtain rfl : ad241 = ad243 := (by injection e243)
                              replace hx243_0 := (HB.out.cell (World.block_lt_of_cell? w _ hx243_0)).trans hx243_0
                              have HR243_0 := Aside0.mk hi243_0
                              have HC243_0 := Aside0.mk hl243_0
                              clear hi243_0 hl243_0
                              replace p243 := eq_true p243
                              replace q243 := eq_true q243
                              try go_wp2
                              have n0_ := Aside0.mk (Kd.R_drew HO_4.out)
                              have n1_ := Aside0.mk (below_drew1 HB.out)
                              clear HO_4
                              clear HB
                              have HO_4 := n0_
                              have HB := n1_
                              clear n0_ n1_
                              have p247 : 0 ≤ (x6_1 : Int) := of_decide_eq_true (by first | (with_reducible assumption) | assumption)
                              have q247 : x6_1 < (l0.length : Int) := of_decide_eq_true (by first | (with_reducible assumption) | assumption)
                              obtain ⟨ad247, A247_0, c247_0, e247, hx247_0, hl247_0, hi247_0⟩ := at_L3 HR0.out x6_1 p247 q247
                              have hw247_0 := hx247_0
                              obtain rfl : ad241 = ad247 := (by injection e247)
                              replace hx247_0 := (HB.out.cell (World.block_lt_of_cell? w _ hx247_0)).trans hx247_0
                              have HR247_0 := Aside0.mk hi247_0
                              have HC247_0 := Aside0.mk hl247_0
                              clear hi247_0 hl247_0
                              replace p247 := eq_true p247
                              replace q247 := eq_true q247
                              have p248 : 0 ≤ (x7_2 : Int) := of_decide_eq_true (by first | (with_reducible assumption) | assumption)
                              have q248 : x7_2 < ((rd_L3 l0 x6_1).length : Int) := of_decide_eq_true (by first | (with_reducible assumption) | assumption)
                              obtain ⟨ad248, e248, hx248_0, hx248_1, hx248_2⟩ := at_T32 HR247_0.out x7_2 p248 q248
                              have hw248_2 := hx248_2
                              have hw248_1 := hx248_1
                              have hw248_0 := hx248_0
                              cases e248
                              replace hx248_0 := (HB.out.cell (World.block_lt_of_cell? w _ hx248_0)).trans hx248_0
                              replace hx248_1 := (HB.out.cell (World.block_lt_of_cell? w _ hx248_1)).trans hx248_1
                              replace hx248_2 := (HB.out.cell (World.block_lt_of_cell? w _ hx248_2)).trans hx248_2
                              replace p248 := eq_true p248
                              replace q248 := eq_true q248
                              refine start_ (n := 16) (S := fun w' => w'.cell? (ad241.add (x6_1).toNat) = some (.slice (some ad248) (rd_L3 l0 x6_1).length c247_0) ∧ w'.cell? (ad248.add ((x7_2).toNat * 3)) = some (.int .u64 ((rd_T32 (rd_L3 l0 x6_1) x7_2).f0)) ∧ w'.cell? ⟨(ad248.add ((x7_2).toNat * 3)).block, (ad248.add ((x7_2).toNat * 3)).off + 1, none⟩ = some (.int .u64 ((rd_T32 (rd_L3 l0 x6_1) x7_2).f1)) ∧ w'.cell? ⟨(ad248.add ((x7_2).toNat * 3)).block, (ad248.add ((x7_2).toNat * 3)).off + 2, none⟩ = some (.bool ((rd_T32 (rd_L3 l0 x6_1) x7_2).f2))) (ds := []) #[false, false, false, false, false, false, false, false, false, false, false, false, false, false, false, false] (by kernel_rfl) rfl rfl ⟨((HB.out.cell (World.block_lt_of_cell? w _ hw247_0)).trans hw247_0), ((HB.out.cell (World.block_lt_of_cell? w _ hw248_0)).trans hw248_0), ((HB.out.cell (World.block_lt_of_cell? w _ hw248_1)).trans hw248_1), ((HB.out.cell (World.block_lt_of_cell? w _ hw248_2)).trans hw248_2)⟩ (fun hHeld => ?_); refine with_tabW inclinelaw13_MergeOnce.tab17 inclinelaw13_MergeOnce.bits17 (fun HT_ HW_ => ?_)
                              generalize wr.drew = w21 at HO_4 HB HR247_0 hx247_0 hx248_0 hx248_1 hx248_2 hHeld ⊢
                              refine pure_ (i := 0) (N := some 54) (v := ?_) (a' := ?_) #[true, false, false, false, false, false, false, false, false, false, false, false, false, false, false, false] rfl rfl (any_of HT_.out (by kernel_rfl)) (fun _ _ _ h => h) (Or.inl ⟨by rfl, ?_⟩) ?_ ?_
                              rotate_left
                              · intro w'
                                go_simp
                                with_reducible rfl
                              rotate_left
                              · simp only [Act.put, List.setIfInBounds_toArray, List.set_cons_zero, List.set_cons_succ, i64_w, i32_w]
                                rfl
                              refine pure_ (i := 2) (N := some 56) (v := ?_) (a' := ?_) #[true, false, true, false, false, false, false, false, false, false, false, false, false, false, false, false] rfl rfl (any_of HT_.out (by kernel_rfl)) (fun _ _ _ h => h) (Or.inl ⟨by rfl, ?_⟩) ?_ ?_
                              rotate_left
                              · intro w'
                                go_simp
                                with_reducible rfl
                              rotate_left
                              · simp only [Act.put, List.setIfInBounds_toArray, List.set_cons_zero, List.set_cons_succ, i64_w, i32_w]
                                rfl
                              refine pure_ (i := 3) (N := some 57) (v := ?_) (a' := ?_) #[true, false, true, true, false, false, false, false, false, false, false, false, false, false, false, false] rfl rfl (any_of HT_.out (by kernel_rfl)) (fun _ _ _ h => h) (Or.inl ⟨by rfl, ?_⟩) ?_ ?_
                              rotate_left
                              · intro w'
                                go_simp
                                with_reducible rfl
                              rotate_left
                              · simp only [Act.put, List.setIfInBounds_toArray, List.set_cons_zero, List.set_cons_succ, i64_w, i32_w]
                                rfl
                              refine pure_ (i := 4) (N := some 58) (v := ?_) (a' := ?_) #[true, false, true, true, true, false, false, false, false, false, false, false, false, false, false, false] rfl rfl (any_of HT_.out (by kernel_rfl)) (fun _ _ _ h => h) (Or.inl ⟨by rfl, ?_⟩) ?_ ?_
                              rotate_left
                              · intro w'
                                go_simp
                                with_reducible rfl
                              rotate_left
                              · simp only [Act.put, List.setIfInBounds_toArray, List.set_cons_zero, List.set_cons_succ, i64_w, i32_w]
                                rfl
                              refine pure_ (i := 6) (N := some 60) (v := ?_) (a' := ?_) #[true, false, true, true, true, false, true, false, false, false, false, false, false, false, false, false] rfl rfl (any_of HT_.out (by kernel_rfl)) (fun _ _ _ h => h) (Or.inl ⟨by rfl, ?_⟩) ?_ ?_
                              rotate_left
                              · intro w'
                                go_simp
                                with_reducible rfl
                              rotate_left
                              · simp only [Act.put, List.setIfInBounds_toArray, List.set_cons_zero, List.set_cons_succ, i64_w, i32_w]
                                rfl
                              refine take_ (i := 5) (N := some 59) (v := ?_) (a' := ?_) #[true, false, true, true, true, true, true, false, false, false, false, false, false, false, false, false] rfl rfl (take_ofW HT_.out HW_.out (by kernel_rfl)) (fun _ _ _ h => h) (Or.inl ⟨by rfl, ?_⟩) hHeld ?_ ?_
                              rotate_left
                              · rintro w' ⟨s0, s1, s2, s3⟩
                                go_simp
                                with_reducible rfl
                              rotate_left
                              · simp only [Act.put, List.setIfInBounds_toArray, List.set_cons_zero, List.set_cons_succ, i64_w, i32_w]
                                rfl
                              refine pure_ (i := 7) (N := some 61) (v := ?_) (a' := ?_) #[true, false, true, true, true, true, true, true, false, false, false, false, false, false, false, false] rfl rfl (any_of HT_.out (by kernel_rfl)) (fun _ _ _ h => h) (Or.inl ⟨by rfl, ?_⟩) ?_ ?_
                              rotate_left
                              · intro w'
                                go_simp
                                with_reducible rfl
                              rotate_left
                              · simp only [Act.put, List.setIfInBounds_toArray, List.set_cons_zero, List.set_cons_succ, i64_w, i32_w]
                                rfl
                              refine pure_ (i := 8) (N := some 62) (v := ?_) (a' := ?_) #[true, false, true, true, true, true, true, true, true, false, false, false, false, false, false, false] rfl rfl (any_of HT_.out (by kernel_rfl)) (fun _ _ _ h => h) (Or.inl ⟨by rfl, ?_⟩) ?_ ?_
                              rotate_left
                              · intro w'
                                go_simp
                                with_reducible rfl
                              rotate_left
                              · simp only [Act.put, List.setIfInBounds_toArray, List.set_cons_zero, List.set_cons_succ, i64_w, i32_w]
                                rfl
                              refine take_ (i := 9) (N := some 63) (v := ?_) (a' := ?_) #[true, false, true, true, true, true, true, true, true, true, false, false, false, false, false, false] rfl rfl (take_ofW HT_.out HW_.out (by kernel_rfl)) (fun _ _ _ h => h) (Or.inl ⟨by rfl, ?_⟩) hHeld ?_ ?_
                              rotate_left
                              · rintro w' ⟨s0, s1, s2, s3⟩
                                go_simp
                                with_reducible rfl
                              rotate_left
                              · simp only [Act.put, List.setIfInBounds_toArray, List.set_cons_zero, List.set_cons_succ, i64_w, i32_w]
                                rfl
                              refine one_ (i := 1) (N := some 55) #[true, true, true, true, true, true, true, true, true, true, false, false, false, false, false, false] rfl rfl (one_of HT_.out (by kernel_rfl)) (by decide) (fun K hK => ?_)
                              refine goes_ Try.func29 (by kernel_rfl) rfl #[.slice Ao13 t233.length co13] (by rfl) rfl rfl (by (try simp only [List.map_toArray, List.map_cons, List.map_nil]); first | done | rfl | (simp only [List.length_drop, List.length_take]; rfl)) ?_
                              with_reducible refine (inclineref03_Of.calls k2 _ _ t233 t244 _ ?side1 ?side2 A17.out).mono ?_
                              (case side1 => repeat (first | exact (Kd.R_reads' HO_4.out).2.2 | (with_reducible refine Kd.C_alloc ?_ _) | (with_reducible refine Kd.C_drewN ?_ _) | (with_reducible refine Kd.C_drew ?_)))
                              (case side2 => exact (Kd.R_reads' HO_4.out).2.1)
                              rintro e w22 ⟨v245, rfl, ho0, hb⟩
                              refine ⟨_, rfl, ?_⟩
                              have n0_ := Aside0.mk (Kd.R_below (by (with_reducible repeat (first | apply Kd.R_alloc | apply Kd.R_drewN | apply Kd.R_drew)); exact HO_4.out) hb)
                              have n1_ := Aside0.mk (Kd.R_lower ho0 (below_size (by repeat (first | (with_reducible first | exact HB.out | apply below_alloc | apply pw_below_drewN | apply below_drew1) | exact HB.out))))
                              have n2_ := Aside0.mk (below_step (by repeat (first | (with_reducible first | exact HB.out | apply below_alloc | apply pw_below_drewN | apply below_drew1) | exact HB.out)) hb)
                              clear HO_4
                              clear HB
                              have HO_4 := n0_
                              have HO246 := n1_
                              have HB := n2_
                              clear n0_ n1_ n2_
                              (try clear hb)
                              (try clear hb2)
                              (try clear hk)
                              (try clear hi)
                              (try clear ho0)
                              obtain ⟨Ao23, co23, eo23⟩ := Kd.R_slice HO246.out
                              (first | subst eo23 | (injection eo23 with f1_ f2_ f3_; have f4_ := f1_.symm; have f5_ := f3_.symm; clear f1_ f2_ f3_; subst f4_; subst f5_))
                              refine hK.out _ _ ⟨((HB.out.cell (World.block_lt_of_cell? w _ hw247_0)).trans hw247_0), ((HB.out.cell (World.block_lt_of_cell? w _ hw248_0)).trans hw248_0), ((HB.out.cell (World.block_lt_of_cell? w _ hw248_1)).trans hw248_1), ((HB.out.cell (World.block_lt_of_cell? w _ hw248_2)).trans hw248_2)⟩ (fun hHeld => ?_)
                              clear hK K
                              refine norm_ (a' := ?_) ?_ ?_
                              rotate_left
                              · show Act.put _ (some 55) _ = _
                                simp only [Act.put, List.setIfInBounds_toArray, List.set_cons_zero, List.set_cons_succ, i64_w, i32_w]
                                rfl
                              refine one_ (i := 10) (N := some 64) #[true, true, true, true, true, true, true, true, true, true, true, false, false, false, false, false] rfl rfl (one_of HT_.out (by kernel_rfl)) (by decide) (fun K hK => ?_)
                              refine goes_ Try.func28 (by kernel_rfl) rfl #[.slice Ao23 t244.length co23, .int .u64 ((rd_T32 (rd_L3 l0 x6_1) x7_2).f0)] (by rfl) rfl rfl (by (try simp only [List.map_toArray, List.map_cons, List.map_nil]); first | done | rfl | (simp only [List.length_drop, List.length_take]; rfl)) ?_
                              with_reducible refine (inclineref03_Rank.calls k2 _ _ t244 ((rd_T32 (rd_L3 l0 x6_1) x7_2).f0) t249 true _ ?side1 ?side2 A19.out).mono ?_
                              (case side1 => repeat (first | exact (Kd.R_reads' HO246.out).2.2 | (with_reducible refine Kd.C_alloc ?_ _) | (with_reducible refine Kd.C_drewN ?_ _) | (with_reducible refine Kd.C_drew ?_)))
                              (case side2 => exact (Kd.R_reads' HO246.out).2.1)
                              rintro e w' ⟨rfl, ⟨nd, rfl⟩⟩
                              refine ⟨_, rfl, ?_⟩
                              refine hK.out _ _ ⟨((HB.out.cell (World.block_lt_of_cell? w _ hw247_0)).trans hw247_0), ((HB.out.cell (World.block_lt_of_cell? w _ hw248_0)).trans hw248_0), ((HB.out.cell (World.block_lt_of_cell? w _ hw248_1)).trans hw248_1), ((HB.out.cell (World.block_lt_of_cell? w _ hw248_2)).trans hw248_2)⟩ (fun hHeld => ?_)
                              clear hK K
                              refine norm_ (a' := ?_) ?_ ?_
                              rotate_left
                              · show Act.put _ (some 64) _ = _
                                simp only [Act.put, List.setIfInBounds_toArray, List.set_cons_zero, List.set_cons_succ, i64_w, i32_w]
                                rfl
                              refine pure_ (i := 11) (N := some 53) (v := ?_) (a' := ?_) #[true, true, true, true, true, true, true, true, true, true, true, true, false, false, false, false] rfl rfl (any_of HT_.out (by kernel_rfl)) (fun _ _ _ h => h) (Or.inl ⟨by rfl, ?_⟩) ?_ ?_
                              rotate_left
                              · intro w'
                                go_simp
                                with_reducible rfl
                              rotate_left
                              · simp only [Act.put, List.setIfInBounds_toArray, List.set_cons_zero, List.set_cons_succ, i64_w, i32_w]
                                rfl
                              refine pure_ (i := 12) (N := some 65) (v := ?_) (a' := ?_) #[true, true, true, true, true, true, true, true, true, true, true, true, true, false, false, false] rfl rfl (any_of HT_.out (by kernel_rfl)) (fun _ _ _ h => h) (Or.inl ⟨by rfl, ?_⟩) ?_ ?_
                              rotate_left
                              · intro w'
                                go_simp
                                with_reducible rfl
                              rotate_left
                              · simp only [Act.put, List.setIfInBounds_toArray, List.set_cons_zero, List.set_cons_succ, i64_w, i32_w]
                                rfl
                              refine pure_ (i := 13) (N := some 66) (v := ?_) (a' := ?_) #[true, true, true, true, true, true, true, true, true, true, true, true, true, true, false, false] rfl rfl (any_of HT_.out (by kernel_rfl)) (fun _ _ _ h => h) (Or.inl ⟨by rfl, ?_⟩) ?_ ?_
                              rotate_left
                              · intro w'
                                go_simp
                                with_reducible rfl
                              rotate_left
                              · simp only [Act.put, List.setIfInBounds_toArray, List.set_cons_zero, List.set_cons_succ, i64_w, i32_w]
                                rfl
                              refine pure_ (i := 14) (N := some 8) (v := ?_) (a' := ?_) #[true, true, true, true, true, true, true, true, true, true, true, true, true, true, true, false] rfl rfl (any_of HT_.out (by kernel_rfl)) (fun _ _ _ h => h) (Or.inl ⟨by rfl, ?_⟩) ?_ ?_
                              rotate_left
                              · intro w'
                                go_simp
                                with_reducible rfl
                              rotate_left
                              · simp only [Act.put, List.setIfInBounds_toArray, List.set_cons_zero, List.set_cons_succ, i64_w, i32_w]
                                rfl
                              refine pure_ (i := 15) (N := some 9) (v := ?_) (a' := ?_) #[true, true, true, true, true, true, true, true, true, true, true, true, true, true, true, true] rfl rfl (any_of HT_.out (by kernel_rfl)) (fun _ _ _ h => h) (Or.inl ⟨by rfl, ?_⟩) ?_ ?_
                              rotate_left
                              · intro w'
                                go_simp
                                with_reducible rfl
                              rotate_left
                              · simp only [Act.put, List.setIfInBounds_toArray, List.set_cons_zero, List.set_cons_succ, i64_w, i32_w]
                                rfl
                              refine done_ (done_of HT_.out (by kernel_rfl)) ?_
                              try go_wp2
                              go_loopg [10, 11] k2 (fun kq v10 v11 w' => ∃ (x10_3 : Bool) (x11_3 : Int), v10 = .bool x10_3 ∧ v11 = .int .i64 x11_3 ∧ Aside0 (inclinelaw13_MergeOnce.l2 kq l0 true t233 (wrap64 (x5_1 + ((rd_L3 l0 x6_1).length : Int))) x6_1 x7_2 t249 x10_3 x11_3 = some r) ∧ Aside0 (kq ≤ k2) ∧ Aside0 (Kd.R k32 32 w' w.heap.size (fun _ => True) (.slice Ao13 t233.length co13) t233) ∧ Aside0 (Below w.heap.size w w'))
                              case atStart => exact ⟨(true), (0), (by first | rfl | (simp; done) | (simp [*]; done)), (by first | rfl | (simp; done) | (simp [*]; done)), H', ⟨Nat.le_refl _⟩, ⟨by (with_reducible repeat (first | apply Kd.R_alloc | apply Kd.R_drewN | apply Kd.R_drew)); exact HO_4.out⟩, ⟨by repeat (first | (with_reducible first | exact HB.out | apply below_alloc | apply pw_below_drewN | apply below_drew1) | exact HB.out)⟩⟩
                              case round =>
                                clear H'
                                try clear c1
                                try clear c2
                                try clear p2
                                try clear q2
                                try clear hx2
                                try clear c3
                                try clear c6
                                try clear p6
                                try clear c7
                                try clear c10
                                try clear c10b0
                                try clear c11
                                try clear c11b0
                                try clear c12
                                try clear c12b0
                                try clear c12b1
                                try clear c13
                                try clear c14
                                try clear c14b0
                                try clear c15
                                try clear c15b0
                                try clear c16
                                try clear c16b0
                                try clear c18
                                try clear c18b0
                                try clear c20
                                try clear hx241_0
                                try clear hx242_0
                                try clear hx243_0
                                try clear hx247_0
                                try clear hx248_0
                                try clear hx248_1
                                try clear hx248_2
                                try clear p2
                                try clear p241
                                try clear p242
                                try clear p243
                                try clear p247
                                try clear p248
                                try clear p6
                                try clear q2
                                try clear q241
                                try clear q242
                                try clear q243
                                try clear q247
                                try clear q248
                                obtain ⟨x10_3, x11_3, rfl, rfl, HA, HK3, HO_4, HB⟩ := hrel
                                cases gk with
                                | zero => exact absurd HA.out (by simp [inclinelaw13_MergeOnce.l2])
                                | succ k3 =>
                                  have H := HA.out
                                  clear HA
                                  simp only [inclinelaw13_MergeOnce.l2] at H
                                  by_cases c24 : x11_3 < x6_1
                                  · rw [if_pos c24] at H
                                    have c24b0 : decide (x11_3 < x6_1) = true := decide_eq_true c24
                                    clear c24
                                    by_cases c25 : 0 ≤ x11_3
                                    · rw [if_pos c25] at H
                                      have c25b0 : decide (0 ≤ x11_3) = true := decide_eq_true c25
                                      clear c25
                                      by_cases c26 : x11_3 < (l0.length : Int)
                                      · rw [if_pos c26] at H
                                        have c26b0 : decide (x11_3 < (l0.length : Int)) = true := decide_eq_true c26
                                        clear c26
                                        replace H := Option.bind_eq_some_iff.mp H
                                        obtain ⟨t252, A270, H⟩ := H
                                        replace H : (if 0 ≤ x6_1 then (if x6_1 < (l0.length : Int) then (if 0 ≤ x7_2 then (if x7_2 < ((rd_L3 l0 x6_1).length : Int) then ((inclineref03_Rank.f k3 t252 ((rd_T32 (rd_L3 l0 x6_1) x7_2).f0)).bind fun bt257 => (if x10_3 = true then (inclinelaw13_MergeOnce.l2 k3 l0 true t233 (wrap64 (x5_1 + ((rd_L3 l0 x6_1).length : Int))) x6_1 x7_2 t249 (!bt257.2) (wrap64 (x11_3 + 1))) else (inclinelaw13_MergeOnce.l2 k3 l0 true t233 (wrap64 (x5_1 + ((rd_L3 l0 x6_1).length : Int))) x6_1 x7_2 t249 false (wrap64 (x11_3 + 1))))) else (none)) else (none)) else (none)) else (none)) = some r := H
                                        have A27 := Aside0.mk A270
                                        clear A270
                                        by_cases c28 : 0 ≤ x6_1
                                        · rw [if_pos c28] at H
                                          have c28b0 : decide (0 ≤ x6_1) = true := decide_eq_true c28
                                          clear c28
                                          by_cases c29 : x6_1 < (l0.length : Int)
                                          · rw [if_pos c29] at H
                                            have c29b0 : decide (x6_1 < (l0.length : Int)) = true := decide_eq_true c29
                                            clear c29
                                            by_cases c30 : 0 ≤ x7_2
                                            · rw [if_pos c30] at H
                                              have c30b0 : decide (0 ≤ x7_2) = true := decide_eq_true c30
                                              clear c30
                                              by_cases c31 : x7_2 < ((rd_L3 l0 x6_1).length : Int)
                                              · rw [if_pos c31] at H
                                                have c31b0 : decide (x7_2 < ((rd_L3 l0 x6_1).length : Int)) = true := decide_eq_true c31
                                                clear c31
                                                replace H := Option.bind_eq_some_iff.mp H
                                                obtain ⟨⟨t257, t258⟩, A320, H⟩ := H
                                                replace H : (if x10_3 = true then (inclinelaw13_MergeOnce.l2 k3 l0 true t233 (wrap64 (x5_1 + ((rd_L3 l0 x6_1).length : Int))) x6_1 x7_2 t249 (!t258) (wrap64 (x11_3 + 1))) else (inclinelaw13_MergeOnce.l2 k3 l0 true t233 (wrap64 (x5_1 + ((rd_L3 l0 x6_1).length : Int))) x6_1 x7_2 t249 false (wrap64 (x11_3 + 1)))) = some r := H
                                                have A32 := Aside0.mk A320
                                                clear A320
                                                by_cases c33 : x10_3 = true
                                                · subst c33
                                                  have H1 : (inclinelaw13_MergeOnce.l2 k3 l0 true t233 (wrap64 (x5_1 + ((rd_L3 l0 x6_1).length : Int))) x6_1 x7_2 t249 (!t258) (wrap64 (x11_3 + 1))) = some r := by rw [if_pos rfl] at H; exact H
                                                  clear H
                                                  have H := H1
                                                  clear H1
                                                  have H' := Aside0.mk H
                                                  clear H
                                                  try go_wp2
                                                  have n0_ := Aside0.mk (Kd.R_drew HO_4.out)
                                                  have n1_ := Aside0.mk (below_drew1 HB.out)
                                                  clear HO_4
                                                  clear HB
                                                  have HO_4 := n0_
                                                  have HB := n1_
                                                  clear n0_ n1_
                                                  have p251 : 0 ≤ (x11_3 : Int) := of_decide_eq_true (by first | (with_reducible assumption) | assumption)
                                                  have q251 : x11_3 < (l0.length : Int) := of_decide_eq_true (by first | (with_reducible assumption) | assumption)
                                                  obtain ⟨ad251, A251_0, c251_0, e251, hx251_0, hl251_0, hi251_0⟩ := at_L3 HR0.out x11_3 p251 q251
                                                  have hw251_0 := hx251_0
                                                  obtain rfl : ad241 = ad251 := (by injection e251)
                                                  replace hx251_0 := (HB.out.cell (World.block_lt_of_cell? w _ hx251_0)).trans hx251_0
                                                  have HR251_0 := Aside0.mk hi251_0
                                                  have HC251_0 := Aside0.mk hl251_0
                                                  clear hi251_0 hl251_0
                                                  replace p251 := eq_true p251
                                                  replace q251 := eq_true q251
                                                  have p255 : 0 ≤ (x6_1 : Int) := of_decide_eq_true (by first | (with_reducible assumption) | assumption)
                                                  have q255 : x6_1 < (l0.length : Int) := of_decide_eq_true (by first | (with_reducible assumption) | assumption)
                                                  obtain ⟨ad255, A255_0, c255_0, e255, hx255_0, hl255_0, hi255_0⟩ := at_L3 HR0.out x6_1 p255 q255
                                                  have hw255_0 := hx255_0
                                                  obtain rfl : ad241 = ad255 := (by injection e255)
                                                  replace hx255_0 := (HB.out.cell (World.block_lt_of_cell? w _ hx255_0)).trans hx255_0
                                                  have HR255_0 := Aside0.mk hi255_0
                                                  have HC255_0 := Aside0.mk hl255_0
                                                  clear hi255_0 hl255_0
                                                  replace p255 := eq_true p255
                                                  replace q255 := eq_true q255
                                                  have p256 : 0 ≤ (x7_2 : Int) := of_decide_eq_true (by first | (with_reducible assumption) | assumption)
                                                  have q256 : x7_2 < ((rd_L3 l0 x6_1).length : Int) := of_decide_eq_true (by first | (with_reducible assumption) | assumption)
                                                  obtain ⟨ad256, e256, hx256_0, hx256_1, hx256_2⟩ := at_T32 HR255_0.out x7_2 p256 q256
                                                  have hw256_2 := hx256_2
                                                  have hw256_1 := hx256_1
                                                  have hw256_0 := hx256_0
                                                  cases e256
                                                  replace hx256_0 := (HB.out.cell (World.block_lt_of_cell? w _ hx256_0)).trans hx256_0
                                                  replace hx256_1 := (HB.out.cell (World.block_lt_of_cell? w _ hx256_1)).trans hx256_1
                                                  replace hx256_2 := (HB.out.cell (World.block_lt_of_cell? w _ hx256_2)).trans hx256_2
                                                  replace p256 := eq_true p256
                                                  replace q256 := eq_true q256
                                                  refine start_ (n := 19) (S := fun w' => w'.cell? (ad241.add (x11_3).toNat) = some (.slice A251_0 (rd_L3 l0 x11_3).length c251_0) ∧ w'.cell? (ad241.add (x6_1).toNat) = some (.slice (some ad256) (rd_L3 l0 x6_1).length c255_0) ∧ w'.cell? (ad256.add ((x7_2).toNat * 3)) = some (.int .u64 ((rd_T32 (rd_L3 l0 x6_1) x7_2).f0)) ∧ w'.cell? ⟨(ad256.add ((x7_2).toNat * 3)).block, (ad256.add ((x7_2).toNat * 3)).off + 1, none⟩ = some (.int .u64 ((rd_T32 (rd_L3 l0 x6_1) x7_2).f1)) ∧ w'.cell? ⟨(ad256.add ((x7_2).toNat * 3)).block, (ad256.add ((x7_2).toNat * 3)).off + 2, none⟩ = some (.bool ((rd_T32 (rd_L3 l0 x6_1) x7_2).f2))) (ds := []) #[false, false, false, false, false, false, false, false, false, false, false, false, false, false, false, false, false, false, false] (by kernel_rfl) rfl rfl ⟨((HB.out.cell (World.block_lt_of_cell? w _ hw251_0)).trans hw251_0), ((HB.out.cell (World.block_lt_of_cell? w _ hw255_0)).trans hw255_0), ((HB.out.cell (World.block_lt_of_cell? w _ hw256_0)).trans hw256_0), ((HB.out.cell (World.block_lt_of_cell? w _ hw256_1)).trans hw256_1), ((HB.out.cell (World.block_lt_of_cell? w _ hw256_2)).trans hw256_2)⟩ (fun hHeld => ?_); refine with_tabW inclinelaw13_MergeOnce.tab24 inclinelaw13_MergeOnce.bits24 (fun HT_ HW_ => ?_)
                                                  generalize wr.drew = w34 at HO_4 HB HR251_0 HR255_0 hx251_0 hx255_0 hx256_0 hx256_1 hx256_2 hHeld ⊢
                                                  refine pure_ (i := 0) (N := some 75) (v := ?_) (a' := ?_) #[true, false, false, false, false, false, false, false, false, false, false, false, false, false, false, false, false, false, false] rfl rfl (any_of HT_.out (by kernel_rfl)) (fun _ _ _ h => h) (Or.inl ⟨by rfl, ?_⟩) ?_ ?_
                                                  rotate_left
                                                  · intro w'
                                                    go_simp
                                                    with_reducible rfl
                                                  rotate_left
                                                  · simp only [Act.put, List.setIfInBounds_toArray, List.set_cons_zero, List.set_cons_succ, i64_w, i32_w]
                                                    rfl
                                                  refine pure_ (i := 1) (N := some 76) (v := ?_) (a' := ?_) #[true, true, false, false, false, false, false, false, false, false, false, false, false, false, false, false, false, false, false] rfl rfl (any_of HT_.out (by kernel_rfl)) (fun _ _ _ h => h) (Or.inl ⟨by rfl, ?_⟩) ?_ ?_
                                                  rotate_left
                                                  · intro w'
                                                    go_simp
                                                    with_reducible rfl
                                                  rotate_left
                                                  · simp only [Act.put, List.setIfInBounds_toArray, List.set_cons_zero, List.set_cons_succ, i64_w, i32_w]
                                                    rfl
                                                  refine pure_ (i := 2) (N := some 77) (v := ?_) (a' := ?_) #[true, true, true, false, false, false, false, false, false, false, false, false, false, false, false, false, false, false, false] rfl rfl (any_of HT_.out (by kernel_rfl)) (fun _ _ _ h => h) (Or.inl ⟨by rfl, ?_⟩) ?_ ?_
                                                  rotate_left
                                                  · intro w'
                                                    go_simp
                                                    with_reducible rfl
                                                  rotate_left
                                                  · simp only [Act.put, List.setIfInBounds_toArray, List.set_cons_zero, List.set_cons_succ, i64_w, i32_w]
                                                    rfl
                                                  refine pure_ (i := 5) (N := some 80) (v := ?_) (a' := ?_) #[true, true, true, false, false, true, false, false, false, false, false, false, false, false, false, false, false, false, false] rfl rfl (any_of HT_.out (by kernel_rfl)) (fun _ _ _ h => h) (Or.inl ⟨by rfl, ?_⟩) ?_ ?_
                                                  rotate_left
                                                  · intro w'
                                                    go_simp
                                                    with_reducible rfl
                                                  rotate_left
                                                  · simp only [Act.put, List.setIfInBounds_toArray, List.set_cons_zero, List.set_cons_succ, i64_w, i32_w]
                                                    rfl
                                                  refine pure_ (i := 6) (N := some 81) (v := ?_) (a' := ?_) #[true, true, true, false, false, true, true, false, false, false, false, false, false, false, false, false, false, false, false] rfl rfl (any_of HT_.out (by kernel_rfl)) (fun _ _ _ h => h) (Or.inl ⟨by rfl, ?_⟩) ?_ ?_
                                                  rotate_left
                                                  · intro w'
                                                    go_simp
                                                    with_reducible rfl
                                                  rotate_left
                                                  · simp only [Act.put, List.setIfInBounds_toArray, List.set_cons_zero, List.set_cons_succ, i64_w, i32_w]
                                                    rfl
                                                  refine pure_ (i := 7) (N := some 82) (v := ?_) (a' := ?_) #[true, true, true, false, false, true, true, true, false, false, false, false, false, false, false, false, false, false, false] rfl rfl (any_of HT_.out (by kernel_rfl)) (fun _ _ _ h => h) (Or.inl ⟨by rfl, ?_⟩) ?_ ?_
                                                  rotate_left
                                                  · intro w'
                                                    go_simp
                                                    with_reducible rfl
                                                  rotate_left
                                                  · simp only [Act.put, List.setIfInBounds_toArray, List.set_cons_zero, List.set_cons_succ, i64_w, i32_w]
                                                    rfl
                                                  refine pure_ (i := 9) (N := some 84) (v := ?_) (a' := ?_) #[true, true, true, false, false, true, true, true, false, true, false, false, false, false, false, false, false, false, false] rfl rfl (any_of HT_.out (by kernel_rfl)) (fun _ _ _ h => h) (Or.inl ⟨by rfl, ?_⟩) ?_ ?_
                                                  rotate_left
                                                  · intro w'
                                                    go_simp
                                                    with_reducible rfl
                                                  rotate_left
                                                  · simp only [Act.put, List.setIfInBounds_toArray, List.set_cons_zero, List.set_cons_succ, i64_w, i32_w]
                                                    rfl
                                                  refine take_ (i := 3) (N := some 78) (v := ?_) (a' := ?_) #[true, true, true, true, false, true, true, true, false, true, false, false, false, false, false, false, false, false, false] rfl rfl (take_ofW HT_.out HW_.out (by kernel_rfl)) (fun _ _ _ h => h) (Or.inl ⟨by rfl, ?_⟩) hHeld ?_ ?_
                                                  rotate_left
                                                  · rintro w' ⟨s0, s1, s2, s3, s4⟩
                                                    go_simp
                                                    with_reducible rfl
                                                  rotate_left
                                                  · simp only [Act.put, List.setIfInBounds_toArray, List.set_cons_zero, List.set_cons_succ, i64_w, i32_w]
                                                    rfl
                                                  refine take_ (i := 8) (N := some 83) (v := ?_) (a' := ?_) #[true, true, true, true, false, true, true, true, true, true, false, false, false, false, false, false, false, false, false] rfl rfl (take_ofW HT_.out HW_.out (by kernel_rfl)) (fun _ _ _ h => h) (Or.inl ⟨by rfl, ?_⟩) hHeld ?_ ?_
                                                  rotate_left
                                                  · rintro w' ⟨s0, s1, s2, s3, s4⟩
                                                    go_simp
                                                    with_reducible rfl
                                                  rotate_left
                                                  · simp only [Act.put, List.setIfInBounds_toArray, List.set_cons_zero, List.set_cons_succ, i64_w, i32_w]
                                                    rfl
                                                  refine pure_ (i := 10) (N := some 85) (v := ?_) (a' := ?_) #[true, true, true, true, false, true, true, true, true, true, true, false, false, false, false, false, false, false, false] rfl rfl (any_of HT_.out (by kernel_rfl)) (fun _ _ _ h => h) (Or.inl ⟨by rfl, ?_⟩) ?_ ?_
                                                  rotate_left
                                                  · intro w'
                                                    go_simp
                                                    with_reducible rfl
                                                  rotate_left
                                                  · simp only [Act.put, List.setIfInBounds_toArray, List.set_cons_zero, List.set_cons_succ, i64_w, i32_w]
                                                    rfl
                                                  refine pure_ (i := 11) (N := some 86) (v := ?_) (a' := ?_) #[true, true, true, true, false, true, true, true, true, true, true, true, false, false, false, false, false, false, false] rfl rfl (any_of HT_.out (by kernel_rfl)) (fun _ _ _ h => h) (Or.inl ⟨by rfl, ?_⟩) ?_ ?_
                                                  rotate_left
                                                  · intro w'
                                                    go_simp
                                                    with_reducible rfl
                                                  rotate_left
                                                  · simp only [Act.put, List.setIfInBounds_toArray, List.set_cons_zero, List.set_cons_succ, i64_w, i32_w]
                                                    rfl
                                                  refine take_ (i := 12) (N := some 87) (v := ?_) (a' := ?_) #[true, true, true, true, false, true, true, true, true, true, true, true, true, false, false, false, false, false, false] rfl rfl (take_ofW HT_.out HW_.out (by kernel_rfl)) (fun _ _ _ h => h) (Or.inl ⟨by rfl, ?_⟩) hHeld ?_ ?_
                                                  rotate_left
                                                  · rintro w' ⟨s0, s1, s2, s3, s4⟩
                                                    go_simp
                                                    with_reducible rfl
                                                  rotate_left
                                                  · simp only [Act.put, List.setIfInBounds_toArray, List.set_cons_zero, List.set_cons_succ, i64_w, i32_w]
                                                    rfl
                                                  refine one_ (i := 4) (N := some 79) #[true, true, true, true, true, true, true, true, true, true, true, true, true, false, false, false, false, false, false] rfl rfl (one_of HT_.out (by kernel_rfl)) (by decide) (fun K hK => ?_)
                                                  refine goes_ Try.func29 (by kernel_rfl) rfl #[.slice A251_0 (rd_L3 l0 x11_3).length c251_0] (by rfl) rfl rfl (by (try simp only [List.map_toArray, List.map_cons, List.map_nil]); first | done | rfl | (simp only [List.length_drop, List.length_take]; rfl)) ?_
                                                  with_reducible refine (inclineref03_Of.calls k3 _ _ (rd_L3 l0 x11_3) t252 _ ?side1 ?side2 A27.out).mono ?_
                                                  (case side1 => repeat (first | exact (Kd.C_below HR251_0.out HB.out) | (with_reducible refine Kd.C_alloc ?_ _) | (with_reducible refine Kd.C_drewN ?_ _) | (with_reducible refine Kd.C_drew ?_)))
                                                  (case side2 => exact HC251_0.out)
                                                  rintro e w35 ⟨v253, rfl, ho0, hb⟩
                                                  refine ⟨_, rfl, ?_⟩
                                                  have n0_ := Aside0.mk (Kd.R_below (by (with_reducible repeat (first | apply Kd.R_alloc | apply Kd.R_drewN | apply Kd.R_drew)); exact HO_4.out) hb)
                                                  have n1_ := Aside0.mk (Kd.R_lower ho0 (below_size (by repeat (first | (with_reducible first | exact HB.out | apply below_alloc | apply pw_below_drewN | apply below_drew1) | exact HB.out))))
                                                  have n2_ := Aside0.mk (below_step (by repeat (first | (with_reducible first | exact HB.out | apply below_alloc | apply pw_below_drewN | apply below_drew1) | exact HB.out)) hb)
                                                  clear HO_4
                                                  clear HB
                                                  have HO_4 := n0_
                                                  have HO254 := n1_
                                                  have HB := n2_
                                                  clear n0_ n1_ n2_
                                                  (try clear hb)
                                                  (try clear hb2)
                                                  (try clear hk)
                                                  (try clear hi)
                                                  (try clear ho0)
                                                  obtain ⟨Ao36, co36, eo36⟩ := Kd.R_slice HO254.out
                                                  (first | subst eo36 | (injection eo36 with f1_ f2_ f3_; have f4_ := f1_.symm; have f5_ := f3_.symm; clear f1_ f2_ f3_; subst f4_; subst f5_))
                                                  refine hK.out _ _ ⟨((HB.out.cell (World.block_lt_of_cell? w _ hw251_0)).trans hw251_0), ((HB.out.cell (World.block_lt_of_cell? w _ hw255_0)).trans hw255_0), ((HB.out.cell (World.block_lt_of_cell? w _ hw256_0)).trans hw256_0), ((HB.out.cell (World.block_lt_of_cell? w _ hw256_1)).trans hw256_1), ((HB.out.cell (World.block_lt_of_cell? w _ hw256_2)).trans hw256_2)⟩ (fun hHeld => ?_)
                                                  clear hK K
                                                  refine norm_ (a' := ?_) ?_ ?_
                                                  rotate_left
                                                  · show Act.put _ (some 79) _ = _
                                                    simp only [Act.put, List.setIfInBounds_toArray, List.set_cons_zero, List.set_cons_succ, i64_w, i32_w]
                                                    rfl
                                                  refine one_ (i := 13) (N := some 88) #[true, true, true, true, true, true, true, true, true, true, true, true, true, true, false, false, false, false, false] rfl rfl (one_of HT_.out (by kernel_rfl)) (by decide) (fun K hK => ?_)
                                                  refine goes_ Try.func28 (by kernel_rfl) rfl #[.slice Ao36 t252.length co36, .int .u64 ((rd_T32 (rd_L3 l0 x6_1) x7_2).f0)] (by rfl) rfl rfl (by (try simp only [List.map_toArray, List.map_cons, List.map_nil]); first | done | rfl | (simp only [List.length_drop, List.length_take]; rfl)) ?_
                                                  with_reducible refine (inclineref03_Rank.calls k3 _ _ t252 ((rd_T32 (rd_L3 l0 x6_1) x7_2).f0) t257 t258 _ ?side1 ?side2 A32.out).mono ?_
                                                  (case side1 => repeat (first | exact (Kd.R_reads' HO254.out).2.2 | (with_reducible refine Kd.C_alloc ?_ _) | (with_reducible refine Kd.C_drewN ?_ _) | (with_reducible refine Kd.C_drew ?_)))
                                                  (case side2 => exact (Kd.R_reads' HO254.out).2.1)
                                                  rintro e w' ⟨rfl, ⟨nd, rfl⟩⟩
                                                  refine ⟨_, rfl, ?_⟩
                                                  refine hK.out _ _ ⟨((HB.out.cell (World.block_lt_of_cell? w _ hw251_0)).trans hw251_0), ((HB.out.cell (World.block_lt_of_cell? w _ hw255_0)).trans hw255_0), ((HB.out.cell (World.block_lt_of_cell? w _ hw256_0)).trans hw256_0), ((HB.out.cell (World.block_lt_of_cell? w _ hw256_1)).trans hw256_1), ((HB.out.cell (World.block_lt_of_cell? w _ hw256_2)).trans hw256_2)⟩ (fun hHeld => ?_)
                                                  clear hK K
                                                  refine norm_ (a' := ?_) ?_ ?_
                                                  rotate_left
                                                  · show Act.put _ (some 88) _ = _
                                                    simp only [Act.put, List.setIfInBounds_toArray, List.set_cons_zero, List.set_cons_succ, i64_w, i32_w]
                                                    rfl
                                                  refine pure_ (i := 14) (N := some 74) (v := ?_) (a' := ?_) #[true, true, true, true, true, true, true, true, true, true, true, true, true, true, true, false, false, false, false] rfl rfl (any_of HT_.out (by kernel_rfl)) (fun _ _ _ h => h) (Or.inl ⟨by rfl, ?_⟩) ?_ ?_
                                                  rotate_left
                                                  · intro w'
                                                    go_simp
                                                    with_reducible rfl
                                                  rotate_left
                                                  · simp only [Act.put, List.setIfInBounds_toArray, List.set_cons_zero, List.set_cons_succ, i64_w, i32_w]
                                                    rfl
                                                  refine pure_ (i := 15) (N := some 89) (v := ?_) (a' := ?_) #[true, true, true, true, true, true, true, true, true, true, true, true, true, true, true, true, false, false, false] rfl rfl (any_of HT_.out (by kernel_rfl)) (fun _ _ _ h => h) (Or.inl ⟨by rfl, ?_⟩) ?_ ?_
                                                  rotate_left
                                                  · intro w'
                                                    go_simp
                                                    with_reducible rfl
                                                  rotate_left
                                                  · simp only [Act.put, List.setIfInBounds_toArray, List.set_cons_zero, List.set_cons_succ, i64_w, i32_w]
                                                    rfl
                                                  refine pure_ (i := 16) (N := some 90) (v := ?_) (a' := ?_) #[true, true, true, true, true, true, true, true, true, true, true, true, true, true, true, true, true, false, false] rfl rfl (any_of HT_.out (by kernel_rfl)) (fun _ _ _ h => h) (Or.inl ⟨by rfl, ?_⟩) ?_ ?_
                                                  rotate_left
                                                  · intro w'
                                                    go_simp
                                                    with_reducible rfl
                                                  rotate_left
                                                  · simp only [Act.put, List.setIfInBounds_toArray, List.set_cons_zero, List.set_cons_succ, i64_w, i32_w]
                                                    rfl
                                                  refine pure_ (i := 17) (N := some 12) (v := ?_) (a' := ?_) #[true, true, true, true, true, true, true, true, true, true, true, true, true, true, true, true, true, true, false] rfl rfl (any_of HT_.out (by kernel_rfl)) (fun _ _ _ h => h) (Or.inl ⟨by rfl, ?_⟩) ?_ ?_
                                                  rotate_left
                                                  · intro w'
                                                    go_simp
                                                    with_reducible rfl
                                                  rotate_left
                                                  · simp only [Act.put, List.setIfInBounds_toArray, List.set_cons_zero, List.set_cons_succ, i64_w, i32_w]
                                                    rfl
                                                  refine pure_ (i := 18) (N := some 13) (v := ?_) (a' := ?_) #[true, true, true, true, true, true, true, true, true, true, true, true, true, true, true, true, true, true, true] rfl rfl (any_of HT_.out (by kernel_rfl)) (fun _ _ _ h => h) (Or.inl ⟨by rfl, ?_⟩) ?_ ?_
                                                  rotate_left
                                                  · intro w'
                                                    go_simp
                                                    with_reducible rfl
                                                  rotate_left
                                                  · simp only [Act.put, List.setIfInBounds_toArray, List.set_cons_zero, List.set_cons_succ, i64_w, i32_w]
                                                    rfl
                                                  refine done_ (done_of HT_.out (by kernel_rfl)) ?_
                                                  try go_wp2
                                                  go_roundg k3
                                                  case measure => have := HK1.out; have := HK2.out; have := HK3.out; omega
                                                  case rel => exact ⟨(!t258), (wrap64 (x11_3 + 1)), (by first | rfl | (simp; done) | (simp [*]; done)), (by first | rfl | (simp; done) | (simp [*]; done)), H', ⟨by have := HK1.out; have := HK2.out; have := HK3.out; omega⟩, ⟨by (with_reducible repeat (first | apply Kd.R_alloc | apply Kd.R_drewN | apply Kd.R_drew)); exact HO_4.out⟩, ⟨by repeat (first | (with_reducible first | exact HB.out | apply below_alloc | apply pw_below_drewN | apply below_drew1) | exact HB.out)⟩⟩
                                                · replace c33 := Bool.eq_false_iff.mpr c33
                                                  subst c33
                                                  have H1 : (inclinelaw13_MergeOnce.l2 k3 l0 true t233 (wrap64 (x5_1 + ((rd_L3 l0 x6_1).length : Int))) x6_1 x7_2 t249 false (wrap64 (x11_3 + 1))) = some r := by rw [if_neg (show ¬ (false = true) by decide)] at H; exact H
                                                  clear H
                                                  have H := H1
                                                  clear H1
                                                  have H' := Aside0.mk H
                                                  clear H
                                                  try go_wp2
                                                  have n0_ := Aside0.mk (Kd.R_drew HO_4.out)
                                                  have n1_ := Aside0.mk (below_drew1 HB.out)
                                                  clear HO_4
                                                  clear HB
                                                  have HO_4 := n0_
                                                  have HB := n1_
                                                  clear n0_ n1_
                                                  have p251 : 0 ≤ (x11_3 : Int) := of_decide_eq_true (by first | (with_reducible assumption) | assumption)
                                                  have q251 : x11_3 < (l0.length : Int) := of_decide_eq_true (by first | (with_reducible assumption) | assumption)
                                                  obtain ⟨ad251, A251_0, c251_0, e251, hx251_0, hl251_0, hi251_0⟩ := at_L3 HR0.out x11_3 p251 q251
                                                  have hw251_0 := hx251_0
                                                  obtain rfl : ad241 = ad251 := (by injection e251)
                                                  replace hx251_0 := (HB.out.cell (World.block_lt_of_cell? w _ hx251_0)).trans hx251_0
                                                  have HR251_0 := Aside0.mk hi251_0
                                                  have HC251_0 := Aside0.mk hl251_0
                                                  clear hi251_0 hl251_0
                                                  replace p251 := eq_true p251
                                                  replace q251 := eq_true q251
                                                  have p255 : 0 ≤ (x6_1 : Int) := of_decide_eq_true (by first | (with_reducible assumption) | assumption)
                                                  have q255 : x6_1 < (l0.length : Int) := of_decide_eq_true (by first | (with_reducible assumption) | assumption)
                                                  obtain ⟨ad255, A255_0, c255_0, e255, hx255_0, hl255_0, hi255_0⟩ := at_L3 HR0.out x6_1 p255 q255
                                                  have hw255_0 := hx255_0
                                                  obtain rfl : ad241 = ad255 := (by injection e255)
                                                  replace hx255_0 := (HB.out.cell (World.block_lt_of_cell? w _ hx255_0)).trans hx255_0
                                                  have HR255_0 := Aside0.mk hi255_0
                                                  have HC255_0 := Aside0.mk hl255_0
                                                  clear hi255_0 hl255_0
                                                  replace p255 := eq_true p255
                                                  replace q255 := eq_true q255
                                                  have p256 : 0 ≤ (x7_2 : Int) := of_decide_eq_true (by first | (with_reducible assumption) | assumption)
                                                  have q256 : x7_2 < ((rd_L3 l0 x6_1).length : Int) := of_decide_eq_true (by first | (with_reducible assumption) | assumption)
                                                  obtain ⟨ad256, e256, hx256_0, hx256_1, hx256_2⟩ := at_T32 HR255_0.out x7_2 p256 q256
                                                  have hw256_2 := hx256_2
                                                  have hw256_1 := hx256_1
                                                  have hw256_0 := hx256_0
                                                  cases e256
                                                  replace hx256_0 := (HB.out.cell (World.block_lt_of_cell? w _ hx256_0)).trans hx256_0
                                                  replace hx256_1 := (HB.out.cell (World.block_lt_of_cell? w _ hx256_1)).trans hx256_1
                                                  replace hx256_2 := (HB.out.cell (World.block_lt_of_cell? w _ hx256_2)).trans hx256_2
                                                  replace p256 := eq_true p256
                                                  replace q256 := eq_true q256
                                                  refine start_ (n := 19) (S := fun w' => w'.cell? (ad241.add (x11_3).toNat) = some (.slice A251_0 (rd_L3 l0 x11_3).length c251_0) ∧ w'.cell? (ad241.add (x6_1).toNat) = some (.slice (some ad256) (rd_L3 l0 x6_1).length c255_0) ∧ w'.cell? (ad256.add ((x7_2).toNat * 3)) = some (.int .u64 ((rd_T32 (rd_L3 l0 x6_1) x7_2).f0)) ∧ w'.cell? ⟨(ad256.add ((x7_2).toNat * 3)).block, (ad256.add ((x7_2).toNat * 3)).off + 1, none⟩ = some (.int .u64 ((rd_T32 (rd_L3 l0 x6_1) x7_2).f1)) ∧ w'.cell? ⟨(ad256.add ((x7_2).toNat * 3)).block, (ad256.add ((x7_2).toNat * 3)).off + 2, none⟩ = some (.bool ((rd_T32 (rd_L3 l0 x6_1) x7_2).f2))) (ds := []) #[false, false, false, false, false, false, false, false, false, false, false, false, false, false, false, false, false, false, false] (by kernel_rfl) rfl rfl ⟨((HB.out.cell (World.block_lt_of_cell? w _ hw251_0)).trans hw251_0), ((HB.out.cell (World.block_lt_of_cell? w _ hw255_0)).trans hw255_0), ((HB.out.cell (World.block_lt_of_cell? w _ hw256_0)).trans hw256_0), ((HB.out.cell (World.block_lt_of_cell? w _ hw256_1)).trans hw256_1), ((HB.out.cell (World.block_lt_of_cell? w _ hw256_2)).trans hw256_2)⟩ (fun hHeld => ?_); refine with_tabW inclinelaw13_MergeOnce.tab24 inclinelaw13_MergeOnce.bits24 (fun HT_ HW_ => ?_)
                                                  generalize wr.drew = w37 at HO_4 HB HR251_0 HR255_0 hx251_0 hx255_0 hx256_0 hx256_1 hx256_2 hHeld ⊢
                                                  refine pure_ (i := 0) (N := some 75) (v := ?_) (a' := ?_) #[true, false, false, false, false, false, false, false, false, false, false, false, false, false, false, false, false, false, false] rfl rfl (any_of HT_.out (by kernel_rfl)) (fun _ _ _ h => h) (Or.inl ⟨by rfl, ?_⟩) ?_ ?_
                                                  rotate_left
                                                  · intro w'
                                                    go_simp
                                                    with_reducible rfl
                                                  rotate_left
                                                  · simp only [Act.put, List.setIfInBounds_toArray, List.set_cons_zero, List.set_cons_succ, i64_w, i32_w]
                                                    rfl
                                                  refine pure_ (i := 1) (N := some 76) (v := ?_) (a' := ?_) #[true, true, false, false, false, false, false, false, false, false, false, false, false, false, false, false, false, false, false] rfl rfl (any_of HT_.out (by kernel_rfl)) (fun _ _ _ h => h) (Or.inl ⟨by rfl, ?_⟩) ?_ ?_
                                                  rotate_left
                                                  · intro w'
                                                    go_simp
                                                    with_reducible rfl
                                                  rotate_left
                                                  · simp only [Act.put, List.setIfInBounds_toArray, List.set_cons_zero, List.set_cons_succ, i64_w, i32_w]
                                                    rfl
                                                  refine pure_ (i := 2) (N := some 77) (v := ?_) (a' := ?_) #[true, true, true, false, false, false, false, false, false, false, false, false, false, false, false, false, false, false, false] rfl rfl (any_of HT_.out (by kernel_rfl)) (fun _ _ _ h => h) (Or.inl ⟨by rfl, ?_⟩) ?_ ?_
                                                  rotate_left
                                                  · intro w'
                                                    go_simp
                                                    with_reducible rfl
                                                  rotate_left
                                                  · simp only [Act.put, List.setIfInBounds_toArray, List.set_cons_zero, List.set_cons_succ, i64_w, i32_w]
                                                    rfl
                                                  refine pure_ (i := 5) (N := some 80) (v := ?_) (a' := ?_) #[true, true, true, false, false, true, false, false, false, false, false, false, false, false, false, false, false, false, false] rfl rfl (any_of HT_.out (by kernel_rfl)) (fun _ _ _ h => h) (Or.inl ⟨by rfl, ?_⟩) ?_ ?_
                                                  rotate_left
                                                  · intro w'
                                                    go_simp
                                                    with_reducible rfl
                                                  rotate_left
                                                  · simp only [Act.put, List.setIfInBounds_toArray, List.set_cons_zero, List.set_cons_succ, i64_w, i32_w]
                                                    rfl
                                                  refine pure_ (i := 6) (N := some 81) (v := ?_) (a' := ?_) #[true, true, true, false, false, true, true, false, false, false, false, false, false, false, false, false, false, false, false] rfl rfl (any_of HT_.out (by kernel_rfl)) (fun _ _ _ h => h) (Or.inl ⟨by rfl, ?_⟩) ?_ ?_
                                                  rotate_left
                                                  · intro w'
                                                    go_simp
                                                    with_reducible rfl
                                                  rotate_left
                                                  · simp only [Act.put, List.setIfInBounds_toArray, List.set_cons_zero, List.set_cons_succ, i64_w, i32_w]
                                                    rfl
                                                  refine pure_ (i := 7) (N := some 82) (v := ?_) (a' := ?_) #[true, true, true, false, false, true, true, true, false, false, false, false, false, false, false, false, false, false, false] rfl rfl (any_of HT_.out (by kernel_rfl)) (fun _ _ _ h => h) (Or.inl ⟨by rfl, ?_⟩) ?_ ?_
                                                  rotate_left
                                                  · intro w'
                                                    go_simp
                                                    with_reducible rfl
                                                  rotate_left
                                                  · simp only [Act.put, List.setIfInBounds_toArray, List.set_cons_zero, List.set_cons_succ, i64_w, i32_w]
                                                    rfl
                                                  refine pure_ (i := 9) (N := some 84) (v := ?_) (a' := ?_) #[true, true, true, false, false, true, true, true, false, true, false, false, false, false, false, false, false, false, false] rfl rfl (any_of HT_.out (by kernel_rfl)) (fun _ _ _ h => h) (Or.inl ⟨by rfl, ?_⟩) ?_ ?_
                                                  rotate_left
                                                  · intro w'
                                                    go_simp
                                                    with_reducible rfl
                                                  rotate_left
                                                  · simp only [Act.put, List.setIfInBounds_toArray, List.set_cons_zero, List.set_cons_succ, i64_w, i32_w]
                                                    rfl
                                                  refine take_ (i := 3) (N := some 78) (v := ?_) (a' := ?_) #[true, true, true, true, false, true, true, true, false, true, false, false, false, false, false, false, false, false, false] rfl rfl (take_ofW HT_.out HW_.out (by kernel_rfl)) (fun _ _ _ h => h) (Or.inl ⟨by rfl, ?_⟩) hHeld ?_ ?_
                                                  rotate_left
                                                  · rintro w' ⟨s0, s1, s2, s3, s4⟩
                                                    go_simp
                                                    with_reducible rfl
                                                  rotate_left
                                                  · simp only [Act.put, List.setIfInBounds_toArray, List.set_cons_zero, List.set_cons_succ, i64_w, i32_w]
                                                    rfl
                                                  refine take_ (i := 8) (N := some 83) (v := ?_) (a' := ?_) #[true, true, true, true, false, true, true, true, true, true, false, false, false, false, false, false, false, false, false] rfl rfl (take_ofW HT_.out HW_.out (by kernel_rfl)) (fun _ _ _ h => h) (Or.inl ⟨by rfl, ?_⟩) hHeld ?_ ?_
                                                  rotate_left
                                                  · rintro w' ⟨s0, s1, s2, s3, s4⟩
                                                    go_simp
                                                    with_reducible rfl
                                                  rotate_left
                                                  · simp only [Act.put, List.setIfInBounds_toArray, List.set_cons_zero, List.set_cons_succ, i64_w, i32_w]
                                                    rfl
                                                  refine pure_ (i := 10) (N := some 85) (v := ?_) (a' := ?_) #[true, true, true, true, false, true, true, true, true, true, true, false, false, false, false, false, false, false, false] rfl rfl (any_of HT_.out (by kernel_rfl)) (fun _ _ _ h => h) (Or.inl ⟨by rfl, ?_⟩) ?_ ?_
                                                  rotate_left
                                                  · intro w'
                                                    go_simp
                                                    with_reducible rfl
                                                  rotate_left
                                                  · simp only [Act.put, List.setIfInBounds_toArray, List.set_cons_zero, List.set_cons_succ, i64_w, i32_w]
                                                    rfl
                                                  refine pure_ (i := 11) (N := some 86) (v := ?_) (a' := ?_) #[true, true, true, true, false, true, true, true, true, true, true, true, false, false, false, false, false, false, false] rfl rfl (any_of HT_.out (by kernel_rfl)) (fun _ _ _ h => h) (Or.inl ⟨by rfl, ?_⟩) ?_ ?_
                                                  rotate_left
                                                  · intro w'
                                                    go_simp
                                                    with_reducible rfl
                                                  rotate_left
                                                  · simp only [Act.put, List.setIfInBounds_toArray, List.set_cons_zero, List.set_cons_succ, i64_w, i32_w]
                                                    rfl
                                                  refine take_ (i := 12) (N := some 87) (v := ?_) (a' := ?_) #[true, true, true, true, false, true, true, true, true, true, true, true, true, false, false, false, false, false, false] rfl rfl (take_ofW HT_.out HW_.out (by kernel_rfl)) (fun _ _ _ h => h) (Or.inl ⟨by rfl, ?_⟩) hHeld ?_ ?_
                                                  rotate_left
                                                  · rintro w' ⟨s0, s1, s2, s3, s4⟩
                                                    go_simp
                                                    with_reducible rfl
                                                  rotate_left
                                                  · simp only [Act.put, List.setIfInBounds_toArray, List.set_cons_zero, List.set_cons_succ, i64_w, i32_w]
                                                    rfl
                                                  refine one_ (i := 4) (N := some 79) #[true, true, true, true, true, true, true, true, true, true, true, true, true, false, false, false, false, false, false] rfl rfl (one_of HT_.out (by kernel_rfl)) (by decide) (fun K hK => ?_)
                                                  refine goes_ Try.func29 (by kernel_rfl) rfl #[.slice A251_0 (rd_L3 l0 x11_3).length c251_0] (by rfl) rfl rfl (by (try simp only [List.map_toArray, List.map_cons, List.map_nil]); first | done | rfl | (simp only [List.length_drop, List.length_take]; rfl)) ?_
                                                  with_reducible refine (inclineref03_Of.calls k3 _ _ (rd_L3 l0 x11_3) t252 _ ?side1 ?side2 A27.out).mono ?_
                                                  (case side1 => repeat (first | exact (Kd.C_below HR251_0.out HB.out) | (with_reducible refine Kd.C_alloc ?_ _) | (with_reducible refine Kd.C_drewN ?_ _) | (with_reducible refine Kd.C_drew ?_)))
                                                  (case side2 => exact HC251_0.out)
                                                  rintro e w38 ⟨v253, rfl, ho0, hb⟩
                                                  refine ⟨_, rfl, ?_⟩
                                                  have n0_ := Aside0.mk (Kd.R_below (by (with_reducible repeat (first | apply Kd.R_alloc | apply Kd.R_drewN | apply Kd.R_drew)); exact HO_4.out) hb)
                                                  have n1_ := Aside0.mk (Kd.R_lower ho0 (below_size (by repeat (first | (with_reducible first | exact HB.out | apply below_alloc | apply pw_below_drewN | apply below_drew1) | exact HB.out))))
                                                  have n2_ := Aside0.mk (below_step (by repeat (first | (with_reducible first | exact HB.out | apply below_alloc | apply pw_below_drewN | apply below_drew1) | exact HB.out)) hb)
                                                  clear HO_4
                                                  clear HB
                                                  have HO_4 := n0_
                                                  have HO254 := n1_
                                                  have HB := n2_
                                                  clear n0_ n1_ n2_
                                                  (try clear hb)
                                                  (try clear hb2)
                                                  (try clear hk)
                                                  (try clear hi)
                                                  (try clear ho0)
                                                  obtain ⟨Ao39, co39, eo39⟩ := Kd.R_slice HO254.out
                                                  (first | subst eo39 | (injection eo39 with f1_ f2_ f3_; have f4_ := f1_.symm; have f5_ := f3_.symm; clear f1_ f2_ f3_; subst f4_; subst f5_))
                                                  refine hK.out _ _ ⟨((HB.out.cell (World.block_lt_of_cell? w _ hw251_0)).trans hw251_0), ((HB.out.cell (World.block_lt_of_cell? w _ hw255_0)).trans hw255_0), ((HB.out.cell (World.block_lt_of_cell? w _ hw256_0)).trans hw256_0), ((HB.out.cell (World.block_lt_of_cell? w _ hw256_1)).trans hw256_1), ((HB.out.cell (World.block_lt_of_cell? w _ hw256_2)).trans hw256_2)⟩ (fun hHeld => ?_)
                                                  clear hK K
                                                  refine norm_ (a' := ?_) ?_ ?_
                                                  rotate_left
                                                  · show Act.put _ (some 79) _ = _
                                                    simp only [Act.put, List.setIfInBounds_toArray, List.set_cons_zero, List.set_cons_succ, i64_w, i32_w]
                                                    rfl
                                                  refine one_ (i := 13) (N := some 88) #[true, true, true, true, true, true, true, true, true, true, true, true, true, true, false, false, false, false, false] rfl rfl (one_of HT_.out (by kernel_rfl)) (by decide) (fun K hK => ?_)
                                                  refine goes_ Try.func28 (by kernel_rfl) rfl #[.slice Ao39 t252.length co39, .int .u64 ((rd_T32 (rd_L3 l0 x6_1) x7_2).f0)] (by rfl) rfl rfl (by (try simp only [List.map_toArray, List.map_cons, List.map_nil]); first | done | rfl | (simp only [List.length_drop, List.length_take]; rfl)) ?_
                                                  with_reducible refine (inclineref03_Rank.calls k3 _ _ t252 ((rd_T32 (rd_L3 l0 x6_1) x7_2).f0) t257 t258 _ ?side1 ?side2 A32.out).mono ?_
                                                  (case side1 => repeat (first | exact (Kd.R_reads' HO254.out).2.2 | (with_reducible refine Kd.C_alloc ?_ _) | (with_reducible refine Kd.C_drewN ?_ _) | (with_reducible refine Kd.C_drew ?_)))
                                                  (case side2 => exact (Kd.R_reads' HO254.out).2.1)
                                                  rintro e w' ⟨rfl, ⟨nd, rfl⟩⟩
                                                  refine ⟨_, rfl, ?_⟩
                                                  refine hK.out _ _ ⟨((HB.out.cell (World.block_lt_of_cell? w _ hw251_0)).trans hw251_0), ((HB.out.cell (World.block_lt_of_cell? w _ hw255_0)).trans hw255_0), ((HB.out.cell (World.block_lt_of_cell? w _ hw256_0)).trans hw256_0), ((HB.out.cell (World.block_lt_of_cell? w _ hw256_1)).trans hw256_1), ((HB.out.cell (World.block_lt_of_cell? w _ hw256_2)).trans hw256_2)⟩ (fun hHeld => ?_)
                                                  clear hK K
                                                  refine norm_ (a' := ?_) ?_ ?_
                                                  rotate_left
                                                  · show Act.put _ (some 88) _ = _
                                                    simp only [Act.put, List.setIfInBounds_toArray, List.set_cons_zero, List.set_cons_succ, i64_w, i32_w]
                                                    rfl
                                                  refine pure_ (i := 14) (N := some 74) (v := ?_) (a' := ?_) #[true, true, true, true, true, true, true, true, true, true, true, true, true, true, true, false, false, false, false] rfl rfl (any_of HT_.out (by kernel_rfl)) (fun _ _ _ h => h) (Or.inl ⟨by rfl, ?_⟩) ?_ ?_
                                                  rotate_left
                                                  · intro w'
                                                    go_simp
                                                    with_reducible rfl
                                                  rotate_left
                                                  · simp only [Act.put, List.setIfInBounds_toArray, List.set_cons_zero, List.set_cons_succ, i64_w, i32_w]
                                                    rfl
                                                  refine pure_ (i := 15) (N := some 89) (v := ?_) (a' := ?_) #[true, true, true, true, true, true, true, true, true, true, true, true, true, true, true, true, false, false, false] rfl rfl (any_of HT_.out (by kernel_rfl)) (fun _ _ _ h => h) (Or.inl ⟨by rfl, ?_⟩) ?_ ?_
                                                  rotate_left
                                                  · intro w'
                                                    go_simp
                                                    with_reducible rfl
                                                  rotate_left
                                                  · simp only [Act.put, List.setIfInBounds_toArray, List.set_cons_zero, List.set_cons_succ, i64_w, i32_w]
                                                    rfl
                                                  refine pure_ (i := 16) (N := some 90) (v := ?_) (a' := ?_) #[true, true, true, true, true, true, true, true, true, true, true, true, true, true, true, true, true, false, false] rfl rfl (any_of HT_.out (by kernel_rfl)) (fun _ _ _ h => h) (Or.inl ⟨by rfl, ?_⟩) ?_ ?_
                                                  rotate_left
                                                  · intro w'
                                                    go_simp
                                                    with_reducible rfl
                                                  rotate_left
                                                  · simp only [Act.put, List.setIfInBounds_toArray, List.set_cons_zero, List.set_cons_succ, i64_w, i32_w]
                                                    rfl
                                                  refine pure_ (i := 17) (N := some 12) (v := ?_) (a' := ?_) #[true, true, true, true, true, true, true, true, true, true, true, true, true, true, true, true, true, true, false] rfl rfl (any_of HT_.out (by kernel_rfl)) (fun _ _ _ h => h) (Or.inl ⟨by rfl, ?_⟩) ?_ ?_
                                                  rotate_left
                                                  · intro w'
                                                    go_simp
                                                    with_reducible rfl
                                                  rotate_left
                                                  · simp only [Act.put, List.setIfInBounds_toArray, List.set_cons_zero, List.set_cons_succ, i64_w, i32_w]
                                                    rfl
                                                  refine pure_ (i := 18) (N := some 13) (v := ?_) (a' := ?_) #[true, true, true, true, true, true, true, true, true, true, true, true, true, true, true, true, true, true, true] rfl rfl (any_of HT_.out (by kernel_rfl)) (fun _ _ _ h => h) (Or.inl ⟨by rfl, ?_⟩) ?_ ?_
                                                  rotate_left
                                                  · intro w'
                                                    go_simp
                                                    with_reducible rfl
                                                  rotate_left
                                                  · simp only [Act.put, List.setIfInBounds_toArray, List.set_cons_zero, List.set_cons_succ, i64_w, i32_w]
                                                    rfl
                                                  refine done_ (done_of HT_.out (by kernel_rfl)) ?_
                                                  try go_wp2
                                                  go_roundg k3
                                                  case measure => have := HK1.out; have := HK2.out; have := HK3.out; omega
                                                  case rel => exact ⟨(false), (wrap64 (x11_3 + 1)), (by first | rfl | (simp; done) | (simp [*]; done)), (by first | rfl | (simp; done) | (simp [*]; done)), H', ⟨by have := HK1.out; have := HK2.out; have := HK3.out; omega⟩, ⟨by (with_reducible repeat (first | apply Kd.R_alloc | apply Kd.R_drewN | apply Kd.R_drew)); exact HO_4.out⟩, ⟨by repeat (first | (with_reducible first | exact HB.out | apply below_alloc | apply pw_below_drewN | apply below_drew1) | exact HB.out)⟩⟩
                                              · rw [if_neg c31] at H
                                                exact absurd H (by simp)
                                            · rw [if_neg c30] at H
                                              exact absurd H (by simp)
                                          · rw [if_neg c29] at H
                                            exact absurd H (by simp)
                                        · rw [if_neg c28] at H
                                          exact absurd H (by simp)
                                      · rw [if_neg c26] at H
                                        exact absurd H (by simp)
                                    · rw [if_neg c25] at H
                                      exact absurd H (by simp)
                                  · rw [if_neg c24] at H
                                    have c24b0 : decide (x11_3 < x6_1) = false := decide_eq_false c24
                                    clear c24
                                    by_cases c40 : x10_3 = true
                                    · subst c40
                                      have H1 : (if 0 ≤ t249 then (if t249 < (t233.length : Int) then (if 0 ≤ x6_1 then (if x6_1 < (l0.length : Int) then (if 0 ≤ x7_2 then (if x7_2 < ((rd_L3 l0 x6_1).length : Int) then (if (!(((rd_T32 t233 t249).f0) == ((rd_T32 (rd_L3 l0 x6_1) x7_2).f0)) || (!(((rd_T32 t233 t249).f1) == ((rd_T32 (rd_L3 l0 x6_1) x7_2).f1)) || (!(((rd_T32 t233 t249).f2) == ((rd_T32 (rd_L3 l0 x6_1) x7_2).f2))))) = true then (none) else (inclinelaw13_MergeOnce.l1 k3 l0 true t233 (wrap64 (x5_1 + ((rd_L3 l0 x6_1).length : Int))) x6_1 (wrap64 (x7_2 + 1)))) else (none)) else (none)) else (none)) else (none)) else (none)) else (none)) = some r := by rw [if_pos rfl] at H; exact H
                                      clear H
                                      have H := H1
                                      clear H1
                                      by_cases c41 : 0 ≤ t249
                                      · rw [if_pos c41] at H
                                        have c41b0 : decide (0 ≤ t249) = true := decide_eq_true c41
                                        clear c41
                                        by_cases c42 : t249 < (t233.length : Int)
                                        · rw [if_pos c42] at H
                                          have c42b0 : decide (t249 < (t233.length : Int)) = true := decide_eq_true c42
                                          clear c42
                                          by_cases c43 : 0 ≤ x6_1
                                          · rw [if_pos c43] at H
                                            have c43b0 : decide (0 ≤ x6_1) = true := decide_eq_true c43
                                            clear c43
                                            by_cases c44 : x6_1 < (l0.length : Int)
                                            · rw [if_pos c44] at H
                                              have c44b0 : decide (x6_1 < (l0.length : Int)) = true := decide_eq_true c44
                                              clear c44
                                              by_cases c45 : 0 ≤ x7_2
                                              · rw [if_pos c45] at H
                                                have c45b0 : decide (0 ≤ x7_2) = true := decide_eq_true c45
                                                clear c45
                                                by_cases c46 : x7_2 < ((rd_L3 l0 x6_1).length : Int)
                                                · rw [if_pos c46] at H
                                                  have c46b0 : decide (x7_2 < ((rd_L3 l0 x6_1).length : Int)) = true := decide_eq_true c46
                                                  clear c46
                                                  by_cases c47 : (!(((rd_T32 t233 t249).f0) == ((rd_T32 (rd_L3 l0 x6_1) x7_2).f0)) || (!(((rd_T32 t233 t249).f1) == ((rd_T32 (rd_L3 l0 x6_1) x7_2).f1)) || (!(((rd_T32 t233 t249).f2) == ((rd_T32 (rd_L3 l0 x6_1) x7_2).f2))))) = true
                                                  · rw [if_pos c47] at H
                                                    exact absurd H (by simp)
                                                  · rw [if_neg c47] at H
                                                    have c47b0 : (!(((rd_T32 t233 t249).f0) == ((rd_T32 (rd_L3 l0 x6_1) x7_2).f0)) || (!(((rd_T32 t233 t249).f1) == ((rd_T32 (rd_L3 l0 x6_1) x7_2).f1)) || (!(((rd_T32 t233 t249).f2) == ((rd_T32 (rd_L3 l0 x6_1) x7_2).f2))))) = false := by simpa using c47
                                                    clear c47
                                                    have H' := Aside0.mk H
                                                    clear H
                                                    try go_wp2
                                                    have n0_ := Aside0.mk (Kd.R_drew HO_4.out)
                                                    have n1_ := Aside0.mk (below_drew1 HB.out)
                                                    clear HO_4
                                                    clear HB
                                                    have HO_4 := n0_
                                                    have HB := n1_
                                                    clear n0_ n1_
                                                    have p259 : 0 ≤ (t249 : Int) := of_decide_eq_true (by first | (with_reducible assumption) | assumption)
                                                    have q259 : t249 < (t233.length : Int) := of_decide_eq_true (by first | (with_reducible assumption) | assumption)
                                                    obtain ⟨ad259, e259, hx259_0, hx259_1, hx259_2⟩ := at_T32 (Kd.R_reads' HO_4.out).2.2 t249 p259 q259
                                                    cases e259
                                                    replace p259 := eq_true p259
                                                    replace q259 := eq_true q259
                                                    have p260 : 0 ≤ (x6_1 : Int) := of_decide_eq_true (by first | (with_reducible assumption) | assumption)
                                                    have q260 : x6_1 < (l0.length : Int) := of_decide_eq_true (by first | (with_reducible assumption) | assumption)
                                                    obtain ⟨ad260, A260_0, c260_0, e260, hx260_0, hl260_0, hi260_0⟩ := at_L3 HR0.out x6_1 p260 q260
                                                    have hw260_0 := hx260_0
                                                    obtain rfl : ad241 = ad260 := (by injection e260)
                                                    replace hx260_0 := (HB.out.cell (World.block_lt_of_cell? w _ hx260_0)).trans hx260_0
                                                    have HR260_0 := Aside0.mk hi260_0
                                                    have HC260_0 := Aside0.mk hl260_0
                                                    clear hi260_0 hl260_0
                                                    replace p260 := eq_true p260
                                                    replace q260 := eq_true q260
                                                    have p261 : 0 ≤ (x7_2 : Int) := of_decide_eq_true (by first | (with_reducible assumption) | assumption)
                                                    have q261 : x7_2 < ((rd_L3 l0 x6_1).length : Int) := of_decide_eq_true (by first | (with_reducible assumption) | assumption)
                                                    obtain ⟨ad261, e261, hx261_0, hx261_1, hx261_2⟩ := at_T32 HR260_0.out x7_2 p261 q261
                                                    have hw261_2 := hx261_2
                                                    have hw261_1 := hx261_1
                                                    have hw261_0 := hx261_0
                                                    cases e261
                                                    replace hx261_0 := (HB.out.cell (World.block_lt_of_cell? w _ hx261_0)).trans hx261_0
                                                    replace hx261_1 := (HB.out.cell (World.block_lt_of_cell? w _ hx261_1)).trans hx261_1
                                                    replace hx261_2 := (HB.out.cell (World.block_lt_of_cell? w _ hx261_2)).trans hx261_2
                                                    replace p261 := eq_true p261
                                                    replace q261 := eq_true q261
                                                    refine start_ (n := 15) (S := fun w' => w'.cell? (ad259.add ((t249).toNat * 3)) = some (.int .u64 ((rd_T32 t233 t249).f0)) ∧ w'.cell? ⟨(ad259.add ((t249).toNat * 3)).block, (ad259.add ((t249).toNat * 3)).off + 1, none⟩ = some (.int .u64 ((rd_T32 t233 t249).f1)) ∧ w'.cell? ⟨(ad259.add ((t249).toNat * 3)).block, (ad259.add ((t249).toNat * 3)).off + 2, none⟩ = some (.bool ((rd_T32 t233 t249).f2)) ∧ w'.cell? (ad241.add (x6_1).toNat) = some (.slice (some ad261) (rd_L3 l0 x6_1).length c260_0) ∧ w'.cell? (ad261.add ((x7_2).toNat * 3)) = some (.int .u64 ((rd_T32 (rd_L3 l0 x6_1) x7_2).f0)) ∧ w'.cell? ⟨(ad261.add ((x7_2).toNat * 3)).block, (ad261.add ((x7_2).toNat * 3)).off + 1, none⟩ = some (.int .u64 ((rd_T32 (rd_L3 l0 x6_1) x7_2).f1)) ∧ w'.cell? ⟨(ad261.add ((x7_2).toNat * 3)).block, (ad261.add ((x7_2).toNat * 3)).off + 2, none⟩ = some (.bool ((rd_T32 (rd_L3 l0 x6_1) x7_2).f2))) (ds := []) #[false, false, false, false, false, false, false, false, false, false, false, false, false, false, false] (by kernel_rfl) rfl rfl ⟨hx259_0, hx259_1, hx259_2, ((HB.out.cell (World.block_lt_of_cell? w _ hw260_0)).trans hw260_0), ((HB.out.cell (World.block_lt_of_cell? w _ hw261_0)).trans hw261_0), ((HB.out.cell (World.block_lt_of_cell? w _ hw261_1)).trans hw261_1), ((HB.out.cell (World.block_lt_of_cell? w _ hw261_2)).trans hw261_2)⟩ (fun hHeld => ?_); refine with_tabW inclinelaw13_MergeOnce.tab26 inclinelaw13_MergeOnce.bits26 (fun HT_ HW_ => ?_)
                                                    generalize wr.drew = w48 at HO_4 HB HR260_0 hx259_0 hx259_1 hx259_2 hx260_0 hx261_0 hx261_1 hx261_2 hHeld ⊢
                                                    refine pure_ (i := 0) (N := some 96) (v := ?_) (a' := ?_) #[true, false, false, false, false, false, false, false, false, false, false, false, false, false, false] rfl rfl (any_of HT_.out (by kernel_rfl)) (fun _ _ _ h => h) (Or.inl ⟨by rfl, ?_⟩) ?_ ?_
                                                    rotate_left
                                                    · intro w'
                                                      go_simp
                                                      with_reducible rfl
                                                    rotate_left
                                                    · simp only [Act.put, List.setIfInBounds_toArray, List.set_cons_zero, List.set_cons_succ, i64_w, i32_w]
                                                      rfl
                                                    refine pure_ (i := 1) (N := some 97) (v := ?_) (a' := ?_) #[true, true, false, false, false, false, false, false, false, false, false, false, false, false, false] rfl rfl (any_of HT_.out (by kernel_rfl)) (fun _ _ _ h => h) (Or.inl ⟨by rfl, ?_⟩) ?_ ?_
                                                    rotate_left
                                                    · intro w'
                                                      go_simp
                                                      with_reducible rfl
                                                    rotate_left
                                                    · simp only [Act.put, List.setIfInBounds_toArray, List.set_cons_zero, List.set_cons_succ, i64_w, i32_w]
                                                      rfl
                                                    refine pure_ (i := 2) (N := some 98) (v := ?_) (a' := ?_) #[true, true, true, false, false, false, false, false, false, false, false, false, false, false, false] rfl rfl (any_of HT_.out (by kernel_rfl)) (fun _ _ _ h => h) (Or.inl ⟨by rfl, ?_⟩) ?_ ?_
                                                    rotate_left
                                                    · intro w'
                                                      go_simp
                                                      with_reducible rfl
                                                    rotate_left
                                                    · simp only [Act.put, List.setIfInBounds_toArray, List.set_cons_zero, List.set_cons_succ, i64_w, i32_w]
                                                      rfl
                                                    refine pure_ (i := 3) (N := some 99) (v := ?_) (a' := ?_) #[true, true, true, true, false, false, false, false, false, false, false, false, false, false, false] rfl rfl (any_of HT_.out (by kernel_rfl)) (fun _ _ _ h => h) (Or.inl ⟨by rfl, ?_⟩) ?_ ?_
                                                    rotate_left
                                                    · intro w'
                                                      go_simp
                                                      with_reducible rfl
                                                    rotate_left
                                                    · simp only [Act.put, List.setIfInBounds_toArray, List.set_cons_zero, List.set_cons_succ, i64_w, i32_w]
                                                      rfl
                                                    refine pure_ (i := 4) (N := some 100) (v := ?_) (a' := ?_) #[true, true, true, true, true, false, false, false, false, false, false, false, false, false, false] rfl rfl (any_of HT_.out (by kernel_rfl)) (fun _ _ _ h => h) (Or.inl ⟨by rfl, ?_⟩) ?_ ?_
                                                    rotate_left
                                                    · intro w'
                                                      go_simp
                                                      with_reducible rfl
                                                    rotate_left
                                                    · simp only [Act.put, List.setIfInBounds_toArray, List.set_cons_zero, List.set_cons_succ, i64_w, i32_w]
                                                      rfl
                                                    refine pure_ (i := 6) (N := some 102) (v := ?_) (a' := ?_) #[true, true, true, true, true, false, true, false, false, false, false, false, false, false, false] rfl rfl (any_of HT_.out (by kernel_rfl)) (fun _ _ _ h => h) (Or.inl ⟨by rfl, ?_⟩) ?_ ?_
                                                    rotate_left
                                                    · intro w'
                                                      go_simp
                                                      with_reducible rfl
                                                    rotate_left
                                                    · simp only [Act.put, List.setIfInBounds_toArray, List.set_cons_zero, List.set_cons_succ, i64_w, i32_w]
                                                      rfl
                                                    refine pure_ (i := 7) (N := some 103) (v := ?_) (a' := ?_) #[true, true, true, true, true, false, true, true, false, false, false, false, false, false, false] rfl rfl (any_of HT_.out (by kernel_rfl)) (fun _ _ _ h => h) (Or.inl ⟨by rfl, ?_⟩) ?_ ?_
                                                    rotate_left
                                                    · intro w'
                                                      go_simp
                                                      with_reducible rfl
                                                    rotate_left
                                                    · simp only [Act.put, List.setIfInBounds_toArray, List.set_cons_zero, List.set_cons_succ, i64_w, i32_w]
                                                      rfl
                                                    refine pure_ (i := 8) (N := some 104) (v := ?_) (a' := ?_) #[true, true, true, true, true, false, true, true, true, false, false, false, false, false, false] rfl rfl (any_of HT_.out (by kernel_rfl)) (fun _ _ _ h => h) (Or.inl ⟨by rfl, ?_⟩) ?_ ?_
                                                    rotate_left
                                                    · intro w'
                                                      go_simp
                                                      with_reducible rfl
                                                    rotate_left
                                                    · simp only [Act.put, List.setIfInBounds_toArray, List.set_cons_zero, List.set_cons_succ, i64_w, i32_w]
                                                      rfl
                                                    refine pure_ (i := 10) (N := some 106) (v := ?_) (a' := ?_) #[true, true, true, true, true, false, true, true, true, false, true, false, false, false, false] rfl rfl (any_of HT_.out (by kernel_rfl)) (fun _ _ _ h => h) (Or.inl ⟨by rfl, ?_⟩) ?_ ?_
                                                    rotate_left
                                                    · intro w'
                                                      go_simp
                                                      with_reducible rfl
                                                    rotate_left
                                                    · simp only [Act.put, List.setIfInBounds_toArray, List.set_cons_zero, List.set_cons_succ, i64_w, i32_w]
                                                      rfl
                                                    refine take_ (i := 5) (N := some 101) (v := ?_) (a' := ?_) #[true, true, true, true, true, true, true, true, true, false, true, false, false, false, false] rfl rfl (take_ofW HT_.out HW_.out (by kernel_rfl)) (fun _ _ _ h => h) (Or.inl ⟨by rfl, ?_⟩) hHeld ?_ ?_
                                                    rotate_left
                                                    · rintro w' ⟨s0, s1, s2, s3, s4, s5, s6⟩
                                                      go_simp
                                                      with_reducible rfl
                                                    rotate_left
                                                    · simp only [Act.put, List.setIfInBounds_toArray, List.set_cons_zero, List.set_cons_succ, i64_w, i32_w]
                                                      rfl
                                                    refine take_ (i := 9) (N := some 105) (v := ?_) (a' := ?_) #[true, true, true, true, true, true, true, true, true, true, true, false, false, false, false] rfl rfl (take_ofW HT_.out HW_.out (by kernel_rfl)) (fun _ _ _ h => h) (Or.inl ⟨by rfl, ?_⟩) hHeld ?_ ?_
                                                    rotate_left
                                                    · rintro w' ⟨s0, s1, s2, s3, s4, s5, s6⟩
                                                      go_simp
                                                      with_reducible rfl
                                                    rotate_left
                                                    · simp only [Act.put, List.setIfInBounds_toArray, List.set_cons_zero, List.set_cons_succ, i64_w, i32_w]
                                                      rfl
                                                    refine pure_ (i := 11) (N := some 107) (v := ?_) (a' := ?_) #[true, true, true, true, true, true, true, true, true, true, true, true, false, false, false] rfl rfl (any_of HT_.out (by kernel_rfl)) (fun _ _ _ h => h) (Or.inl ⟨by rfl, ?_⟩) ?_ ?_
                                                    rotate_left
                                                    · intro w'
                                                      go_simp
                                                      with_reducible rfl
                                                    rotate_left
                                                    · simp only [Act.put, List.setIfInBounds_toArray, List.set_cons_zero, List.set_cons_succ, i64_w, i32_w]
                                                      rfl
                                                    refine take_ (i := 12) (N := some 108) (v := ?_) (a' := ?_) #[true, true, true, true, true, true, true, true, true, true, true, true, true, false, false] rfl rfl (take_ofW HT_.out HW_.out (by kernel_rfl)) (fun _ _ _ h => h) (Or.inl ⟨by rfl, ?_⟩) hHeld ?_ ?_
                                                    rotate_left
                                                    · rintro w' ⟨s0, s1, s2, s3, s4, s5, s6⟩
                                                      go_simp
                                                      with_reducible rfl
                                                    rotate_left
                                                    · simp only [Act.put, List.setIfInBounds_toArray, List.set_cons_zero, List.set_cons_succ, i64_w, i32_w]
                                                      rfl
                                                    refine pure_ (i := 13) (N := some 109) (v := ?_) (a' := ?_) #[true, true, true, true, true, true, true, true, true, true, true, true, true, true, false] rfl rfl (any_of HT_.out (by kernel_rfl)) (fun _ _ _ h => h) (Or.inl ⟨by rfl, ?_⟩) ?_ ?_
                                                    rotate_left
                                                    · intro w'
                                                      go_simp
                                                      with_reducible rfl
                                                    rotate_left
                                                    · simp only [Act.put, List.setIfInBounds_toArray, List.set_cons_zero, List.set_cons_succ, i64_w, i32_w]
                                                      rfl
                                                    refine pure_ (i := 14) (N := some 110) (v := ?_) (a' := ?_) #[true, true, true, true, true, true, true, true, true, true, true, true, true, true, true] rfl rfl (any_of HT_.out (by kernel_rfl)) (fun _ _ _ h => h) (Or.inl ⟨by rfl, ?_⟩) ?_ ?_
                                                    rotate_left
                                                    · intro w'
                                                      go_simp
                                                      with_reducible rfl
                                                    rotate_left
                                                    · simp only [Act.put, List.setIfInBounds_toArray, List.set_cons_zero, List.set_cons_succ, i64_w, i32_w]
                                                      rfl
                                                    refine done_ (done_of HT_.out (by kernel_rfl)) ?_
                                                    try go_wp2
                                                    go_roundg k3
                                                    case measure => have := HK1.out; have := HK2.out; have := HK3.out; omega
                                                    case rel => exact ⟨(wrap64 (x7_2 + 1)), (by first | rfl | (simp; done) | (simp [*]; done)), H', ⟨by have := HK1.out; have := HK2.out; have := HK3.out; omega⟩, ⟨by (with_reducible repeat (first | apply Kd.R_alloc | apply Kd.R_drewN | apply Kd.R_drew)); exact HO_4.out⟩, ⟨by repeat (first | (with_reducible first | exact HB.out | apply below_alloc | apply pw_below_drewN | apply below_drew1) | exact HB.out)⟩⟩
                                                · rw [if_neg c46] at H
                                                  exact absurd H (by simp)
                                              · rw [if_neg c45] at H
                                                exact absurd H (by simp)
                                            · rw [if_neg c44] at H
                                              exact absurd H (by simp)
                                          · rw [if_neg c43] at H
                                            exact absurd H (by simp)
                                        · rw [if_neg c42] at H
                                          exact absurd H (by simp)
                                      · rw [if_neg c41] at H
                                        exact absurd H (by simp)
                                    · replace c40 := Bool.eq_false_iff.mpr c40
                                      subst c40
                                      have H1 : (inclinelaw13_MergeOnce.l1 k3 l0 true t233 (wrap64 (x5_1 + ((rd_L3 l0 x6_1).length : Int))) x6_1 (wrap64 (x7_2 + 1))) = some r := by rw [if_neg (show ¬ (false = true) by decide)] at H; exact H
                                      clear H
                                      have H := H1
                                      clear H1
                                      have H' := Aside0.mk H
                                      clear H
                                      try go_wp2
                                      have n0_ := Aside0.mk (Kd.R_drew HO_4.out)
                                      have n1_ := Aside0.mk (below_drew1 HB.out)
                                      clear HO_4
                                      clear HB
                                      have HO_4 := n0_
                                      have HB := n1_
                                      clear n0_ n1_
                                      refine start_ (n := 15) (S := fun w' => True) (ds := []) #[false, false, false, false, false, false, false, false, false, false, false, false, false, false, false] (by kernel_rfl) rfl rfl trivial (fun hHeld => ?_); refine with_tabW inclinelaw13_MergeOnce.tab26 inclinelaw13_MergeOnce.bits26 (fun HT_ HW_ => ?_)
                                      generalize wr.drew = w49 at HO_4 HB hHeld ⊢
                                      refine pure_ (i := 0) (N := some 96) (v := ?_) (a' := ?_) #[true, false, false, false, false, false, false, false, false, false, false, false, false, false, false] rfl rfl (any_of HT_.out (by kernel_rfl)) (fun _ _ _ h => h) (Or.inl ⟨by rfl, ?_⟩) ?_ ?_
                                      rotate_left
                                      · intro w'
                                        go_simp
                                        with_reducible rfl
                                      rotate_left
                                      · simp only [Act.put, List.setIfInBounds_toArray, List.set_cons_zero, List.set_cons_succ, i64_w, i32_w]
                                        rfl
                                      refine pure_ (i := 1) (N := some 97) (v := ?_) (a' := ?_) #[true, true, false, false, false, false, false, false, false, false, false, false, false, false, false] rfl rfl (any_of HT_.out (by kernel_rfl)) (fun _ _ _ h => h) (Or.inl ⟨by rfl, ?_⟩) ?_ ?_
                                      rotate_left
                                      · intro w'
                                        go_simp
                                        with_reducible rfl
                                      rotate_left
                                      · simp only [Act.put, List.setIfInBounds_toArray, List.set_cons_zero, List.set_cons_succ, i64_w, i32_w]
                                        rfl
                                      refine pure_ (i := 2) (N := some 98) (v := undef) (a' := ?_) #[true, true, true, false, false, false, false, false, false, false, false, false, false, false, false] rfl rfl (any_of HT_.out (by kernel_rfl)) (fun _ _ _ h => h) (Or.inr ⟨by rfl, rfl⟩) ?_ ?_
                                      rotate_left
                                      · simp only [Act.put, List.setIfInBounds_toArray, List.set_cons_zero, List.set_cons_succ, i64_w, i32_w]
                                        rfl
                                      refine pure_ (i := 3) (N := some 99) (v := undef) (a' := ?_) #[true, true, true, true, false, false, false, false, false, false, false, false, false, false, false] rfl rfl (any_of HT_.out (by kernel_rfl)) (fun _ _ _ h => h) (Or.inr ⟨by rfl, rfl⟩) ?_ ?_
                                      rotate_left
                                      · simp only [Act.put, List.setIfInBounds_toArray, List.set_cons_zero, List.set_cons_succ, i64_w, i32_w]
                                        rfl
                                      refine pure_ (i := 4) (N := some 100) (v := undef) (a' := ?_) #[true, true, true, true, true, false, false, false, false, false, false, false, false, false, false] rfl rfl (any_of HT_.out (by kernel_rfl)) (fun _ _ _ h => h) (Or.inr ⟨by rfl, rfl⟩) ?_ ?_
                                      rotate_left
                                      · simp only [Act.put, List.setIfInBounds_toArray, List.set_cons_zero, List.set_cons_succ, i64_w, i32_w]
                                        rfl
                                      refine pure_ (i := 5) (N := some 101) (v := undef) (a' := ?_) #[true, true, true, true, true, true, false, false, false, false, false, false, false, false, false] rfl rfl (any_of HT_.out (by kernel_rfl)) (fun _ _ _ h => h) (Or.inr ⟨by rfl, rfl⟩) ?_ ?_
                                      rotate_left
                                      · simp only [Act.put, List.setIfInBounds_toArray, List.set_cons_zero, List.set_cons_succ, i64_w, i32_w]
                                        rfl
                                      refine pure_ (i := 6) (N := some 102) (v := undef) (a' := ?_) #[true, true, true, true, true, true, true, false, false, false, false, false, false, false, false] rfl rfl (any_of HT_.out (by kernel_rfl)) (fun _ _ _ h => h) (Or.inr ⟨by rfl, rfl⟩) ?_ ?_
                                      rotate_left
                                      · simp only [Act.put, List.setIfInBounds_toArray, List.set_cons_zero, List.set_cons_succ, i64_w, i32_w]
                                        rfl
                                      refine pure_ (i := 7) (N := some 103) (v := undef) (a' := ?_) #[true, true, true, true, true, true, true, true, false, false, false, false, false, false, false] rfl rfl (any_of HT_.out (by kernel_rfl)) (fun _ _ _ h => h) (Or.inr ⟨by rfl, rfl⟩) ?_ ?_
                                      rotate_left
                                      · simp only [Act.put, List.setIfInBounds_toArray, List.set_cons_zero, List.set_cons_succ, i64_w, i32_w]
                                        rfl
                                      refine pure_ (i := 8) (N := some 104) (v := undef) (a' := ?_) #[true, true, true, true, true, true, true, true, true, false, false, false, false, false, false] rfl rfl (any_of HT_.out (by kernel_rfl)) (fun _ _ _ h => h) (Or.inr ⟨by rfl, rfl⟩) ?_ ?_
                                      rotate_left
                                      · simp only [Act.put, List.setIfInBounds_toArray, List.set_cons_zero, List.set_cons_succ, i64_w, i32_w]
                                        rfl
                                      refine pure_ (i := 9) (N := some 105) (v := undef) (a' := ?_) #[true, true, true, true, true, true, true, true, true, true, false, false, false, false, false] rfl rfl (any_of HT_.out (by kernel_rfl)) (fun _ _ _ h => h) (Or.inr ⟨by rfl, rfl⟩) ?_ ?_
                                      rotate_left
                                      · simp only [Act.put, List.setIfInBounds_toArray, List.set_cons_zero, List.set_cons_succ, i64_w, i32_w]
                                        rfl
                                      refine pure_ (i := 10) (N := some 106) (v := undef) (a' := ?_) #[true, true, true, true, true, true, true, true, true, true, true, false, false, false, false] rfl rfl (any_of HT_.out (by kernel_rfl)) (fun _ _ _ h => h) (Or.inr ⟨by rfl, rfl⟩) ?_ ?_
                                      rotate_left
                                      · simp only [Act.put, List.setIfInBounds_toArray, List.set_cons_zero, List.set_cons_succ, i64_w, i32_w]
                                        rfl
                                      refine pure_ (i := 11) (N := some 107) (v := undef) (a' := ?_) #[true, true, true, true, true, true, true, true, true, true, true, true, false, false, false] rfl rfl (any_of HT_.out (by kernel_rfl)) (fun _ _ _ h => h) (Or.inr ⟨by rfl, rfl⟩) ?_ ?_
                                      rotate_left
                                      · simp only [Act.put, List.setIfInBounds_toArray, List.set_cons_zero, List.set_cons_succ, i64_w, i32_w]
                                        rfl
                                      refine pure_ (i := 12) (N := some 108) (v := undef) (a' := ?_) #[true, true, true, true, true, true, true, true, true, true, true, true, true, false, false] rfl rfl (any_of HT_.out (by kernel_rfl)) (fun _ _ _ h => h) (Or.inr ⟨by rfl, rfl⟩) ?_ ?_
                                      rotate_left
                                      · simp only [Act.put, List.setIfInBounds_toArray, List.set_cons_zero, List.set_cons_succ, i64_w, i32_w]
                                        rfl
                                      refine pure_ (i := 13) (N := some 109) (v := undef) (a' := ?_) #[true, true, true, true, true, true, true, true, true, true, true, true, true, true, false] rfl rfl (any_of HT_.out (by kernel_rfl)) (fun _ _ _ h => h) (Or.inr ⟨by rfl, rfl⟩) ?_ ?_
                                      rotate_left
                                      · simp only [Act.put, List.setIfInBounds_toArray, List.set_cons_zero, List.set_cons_succ, i64_w, i32_w]
                                        rfl
                                      refine pure_ (i := 14) (N := some 110) (v := ?_) (a' := ?_) #[true, true, true, true, true, true, true, true, true, true, true, true, true, true, true] rfl rfl (any_of HT_.out (by kernel_rfl)) (fun _ _ _ h => h) (Or.inl ⟨by rfl, ?_⟩) ?_ ?_
                                      rotate_left
                                      · intro w'
                                        go_simp
                                        with_reducible rfl
                                      rotate_left
                                      · simp only [Act.put, List.setIfInBounds_toArray, List.set_cons_zero, List.set_cons_succ, i64_w, i32_w]
                                        rfl
                                      refine done_ (done_of HT_.out (by kernel_rfl)) ?_
                                      try go_wp2
                                      go_roundg k3
                                      case measure => have := HK1.out; have := HK2.out; have := HK3.out; omega
                                      case rel => exact ⟨(wrap64 (x7_2 + 1)), (by first | rfl | (simp; done) | (simp [*]; done)), H', ⟨by have := HK1.out; have := HK2.out; have := HK3.out; omega⟩, ⟨by (with_reducible repeat (first | apply Kd.R_alloc | apply Kd.R_drewN | apply Kd.R_drew)); exact HO_4.out⟩, ⟨by repeat (first | (with_reducible first | exact HB.out | apply below_alloc | apply pw_below_drewN | apply below_drew1) | exact HB.out)⟩⟩
                            · replace c20 := Bool.eq_false_iff.mpr c20
                              subst c20
                              have H1 : (none) = some r := by rw [if_neg (show ¬ (false = true) by decide)] at H; exact H
                              clear H
                              have H := H1
                              clear H1
                              exact absurd H (by simp)
                          · rw [if_neg c18] at H
                            exact absurd H (by simp)
                        · rw [if_neg c16] at H
                          have c16b0 : decide (x7_2 < ((rd_L3 l0 x6_1).length : Int)) = false := decide_eq_false c16
                          clear c16
                          have H' := Aside0.mk H
                          clear H
                          have p243 : 0 ≤ (x6_1 : Int) := of_decide_eq_true (by first | (with_reducible assumption) | assumption)
                          have q243 : x6_1 < (l0.length : Int) := of_decide_eq_true (by first | (with_reducible assumption) | assumption)
                          obtain ⟨ad243, A243_0, c243_0, e243, hx243_0, hl243_0, hi243_0⟩ := at_L3 HR0.out x6_1 p243 q243
                          obtain rfl : ad241 = ad243 := (by injection e243)
                          replace hx243_0 := (HB.out.cell (World.block_lt_of_cell? w _ hx243_0)).trans hx243_0
                          have HR243_0 := Aside0.mk hi243_0
                          have HC243_0 := Aside0.mk hl243_0
                          clear hi243_0 hl243_0
                          replace p243 := eq_true p243
                          replace q243 := eq_true q243
                          go_wp2
                          go_roundg k2
                          case measure => have := HK1.out; have := HK2.out; omega
                          case rel => exact ⟨((wrap64 (x5_1 + ((rd_L3 l0 x6_1).length : Int)))), (wrap64 (x6_1 + 1)), (by first | rfl | (simp; done) | (simp [*]; done)), (by first | rfl | (simp; done) | (simp [*]; done)), H', ⟨by have := HK1.out; have := HK2.out; omega⟩, ⟨by (with_reducible repeat (first | apply Kd.R_alloc | apply Kd.R_drewN | apply Kd.R_drew)); exact HO_4.out⟩, ⟨by repeat (first | (with_reducible first | exact HB.out | apply below_alloc | apply pw_below_drewN | apply below_drew1) | exact HB.out)⟩⟩
                      · rw [if_neg c15] at H
                        exact absurd H (by simp)
                    · rw [if_neg c14] at H
                      exact absurd H (by simp)
            · rw [if_neg c11] at H
              exact absurd H (by simp)
          · rw [if_neg c10] at H
            have c10b0 : decide (x6_1 < (l0.length : Int)) = false := decide_eq_false c10
            clear c10
            first | rw [if_pos rfl] at H | rw [if_pos trivial] at H
            by_cases c50 : (t233.length : Int) ≤ x5_1
            · rw [if_pos c50] at H
              have c50b0 : decide ((t233.length : Int) ≤ x5_1) = true := decide_eq_true c50
              clear c50
              replace H := Option.bind_eq_some_iff.mp H
              obtain ⟨t237, A510, H⟩ := H
              replace H : ((inclineref03_Rising.f k1 t237).bind fun t240 => (some t240)) = some r := H
              have A51 := Aside0.mk A510
              clear A510
              replace H := Option.bind_eq_some_iff.mp H
              obtain ⟨t240, A520, H⟩ := H
              replace H : (some t240) = some r := H
              have A52 := Aside0.mk A520
              clear A520
              obtain rfl := Option.some.inj H
              obtain ⟨Ao53, co53, eo53⟩ := Kd.R_slice HO_4.out
              subst eo53
              go_wp2_with (first | (go_at_call 29; (with_reducible refine (inclineref03_Of.calls k1 _ _ t233 t237 _ ?side1 ?side2 A51.out).mono ?_); (case side1 => repeat (first | exact (Kd.R_reads' HO_4.out).2.2 | (with_reducible refine Kd.C_alloc ?_ _) | (with_reducible refine Kd.C_drewN ?_ _) | (with_reducible refine Kd.C_drew ?_))); (case side2 => exact (Kd.R_reads' HO_4.out).2.1); rintro e w54 ⟨v238, rfl, ho0, hb⟩; have n0_ := Aside0.mk (Kd.R_below (by (with_reducible repeat (first | apply Kd.R_alloc | apply Kd.R_drewN | apply Kd.R_drew)); exact HO_4.out) hb); have n1_ := Aside0.mk (Kd.R_lower ho0 (below_size (by repeat (first | (with_reducible first | exact HB.out | apply below_alloc | apply pw_below_drewN | apply below_drew1) | exact HB.out)))); have n2_ := Aside0.mk (below_step (by repeat (first | (with_reducible first | exact HB.out | apply below_alloc | apply pw_below_drewN | apply below_drew1) | exact HB.out)) hb); clear HO_4; clear HB; have HO_4 := n0_; have HO239 := n1_; have HB := n2_; clear n0_ n1_ n2_; (try clear hb); (try clear hb2); (try clear hk); (try clear hi); (try clear ho0); obtain ⟨Ao55, co55, eo55⟩ := Kd.R_slice HO239.out; subst eo55) | (go_at_call 30; (with_reducible refine (inclineref03_Rising.calls k1 _ _ t237 t240 _ ?side1 ?side2 A52.out).mono ?_); (case side1 => repeat (first | exact (Kd.R_reads' HO239.out).2.2 | (with_reducible refine Kd.C_alloc ?_ _) | (with_reducible refine Kd.C_drewN ?_ _) | (with_reducible refine Kd.C_drew ?_))); (case side2 => exact (Kd.R_reads' HO239.out).2.1); rintro e w' ⟨rfl, ⟨nd, rfl⟩⟩))
              go_ret
              exact ⟨by first | rfl | (simp [errW_none, errW_some] <;> rfl) | (simp [*, errW_none, errW_some] <;> rfl), by repeat (first | (with_reducible first | exact HB.out | apply below_alloc | apply pw_below_drewN | apply below_drew1) | exact HB.out)⟩
            · rw [if_neg c50] at H
              exact absurd H (by simp)
    · replace c6 := Bool.eq_false_iff.mpr c6
      subst c6
      have H1 : (some true) = some r := by rw [if_neg (show ¬ (false = true) by decide)] at H; exact H
      clear H
      have H := H1
      clear H1
      obtain rfl := Option.some.inj H
      go_enter Try.func7, Try.ntmps7
      go_wp2_with (first | ((with_reducible refine gate_callee (f := 10) rfl ?_); refine goesL_ (some 14) rfl rfl Try.func10 (by kernel_rfl) rfl #[] rfl (by (try simp only [List.map_toArray, List.map_cons, List.map_nil]); first | done | rfl | (simp only [List.length_drop, List.length_take]; rfl)) ?_; (with_reducible refine (inclinelaw13_shown.calls  true _ A2.out).mono ?_); rintro e w56 ⟨rfl, hb⟩; refine ⟨_, rfl, ?_⟩; have n0_ := Aside0.mk (below_step (by repeat (first | (with_reducible first | exact HB.out | apply below_alloc | apply pw_below_drewN | apply below_drew1) | exact HB.out)) hb); clear HB; have HB := n0_; clear n0_; (try clear hb); (try clear hb2); (try clear hk); (try clear hi)) | ((with_reducible refine gate_callee (f := 13) rfl ?_); refine goesL_ (some 18) rfl rfl Try.func13 (by kernel_rfl) rfl #[.slice A0 l0.length c0] rfl (by (try simp only [List.map_toArray, List.map_cons, List.map_nil]); first | done | rfl | (simp only [List.length_drop, List.length_take]; rfl)) ?_; (with_reducible refine (merge_Entries.calls _ _ l0 t233 _ ?side1 ?side2 A4.out).mono ?_); (case side1 => repeat (first | exact (Kd.C_below HR0.out HB.out) | (with_reducible refine Kd.C_alloc ?_ _) | (with_reducible refine Kd.C_drewN ?_ _) | (with_reducible refine Kd.C_drew ?_))); (case side2 => exact HC0.out); rintro e w57 ⟨v234, rfl, ho0, hb⟩; refine ⟨_, rfl, ?_⟩; have n0_ := Aside0.mk (Kd.R_lower ho0 (below_size (by repeat (first | (with_reducible first | exact HB.out | apply below_alloc | apply pw_below_drewN | apply below_drew1) | exact HB.out)))); have n1_ := Aside0.mk (below_step (by repeat (first | (with_reducible first | exact HB.out | apply below_alloc | apply pw_below_drewN | apply below_drew1) | exact HB.out)) hb); clear HB; have HO235 := n0_; have HB := n1_; clear n0_ n1_; (try clear hb); (try clear hb2); (try clear hk); (try clear hi); (try clear ho0)) | ((with_reducible refine gate_callee (f := 27) rfl ?_); refine goesL_ (some 20) rfl rfl Try.func27 (by kernel_rfl) rfl #[.slice A0 l0.length c0] rfl (by (try simp only [List.map_toArray, List.map_cons, List.map_nil]); first | done | rfl | (simp only [List.length_drop, List.length_take]; rfl)) ?_; (with_reducible refine (inclinelaw13_rising.calls k _ _ l0 false _ ?side1 ?side2 A5.out).mono ?_); (case side1 => repeat (first | exact (Kd.C_below HR0.out HB.out) | (with_reducible refine Kd.C_alloc ?_ _) | (with_reducible refine Kd.C_drewN ?_ _) | (with_reducible refine Kd.C_drew ?_))); (case side2 => exact HC0.out); rintro e w58 ⟨rfl, hb⟩; refine ⟨_, rfl, ?_⟩; have n0_ := Aside0.mk (Kd.R_below (by (with_reducible repeat (first | apply Kd.R_alloc | apply Kd.R_drewN | apply Kd.R_drew)); exact HO235.out) hb); have n1_ := Aside0.mk (below_step (by repeat (first | (with_reducible first | exact HB.out | apply below_alloc | apply pw_below_drewN | apply below_drew1) | exact HB.out)) hb); clear HO235; clear HB; have HO235 := n0_; have HB := n1_; clear n0_ n1_; (try clear hb); (try clear hb2); (try clear hk); (try clear hi)))
      go_ret
      exact ⟨by first | rfl | (simp [errW_none, errW_some] <;> rfl) | (simp [*, errW_none, errW_some] <;> rfl), by repeat (first | (with_reducible first | exact HB.out | apply below_alloc | apply pw_below_drewN | apply below_drew1) | exact HB.out)⟩
  · replace c3 := Bool.eq_false_iff.mpr c3
    subst c3
    have H1 : (none) = some r := by rw [if_neg (show ¬ (false = true) by decide)] at H; exact H
    clear H
    have H := H1
    clear H1
    exact absurd H (by simp)

end Go.Proofs.Ytojbfjfjhfnopaa.G
end

section
/- MergeOnce: what its walk computes is true. -/
namespace Go.Proofs.Ytojbfjfjhfnopaa.Pure
open Go.RowKit Go.Proofs.Ytojbfjfjhfnopaa.G Go.Proofs.YtojbfjfjhfnopaaW.PrintWords Go.Proofs.YtojbfjfjhfnopaaW.PrintLast
open MergeL
set_option linter.unusedVariables false
theorem rise_iff (xs : List S32) : Rise S32.f0 xs ↔ Rises (keysOf xs) := by
  unfold Rise Rises keysOf
  rw [List.pairwise_iff_getElem]
  constructor
  · intro h i j hij hj
    have hj2 : j < xs.length := by simpa using hj
    have := h i j (by omega) hj2 hij
    simp only [List.getD_eq_getElem?_getD, List.getElem?_map, List.getElem?_eq_getElem hj2, List.getElem?_eq_getElem (show i < xs.length by omega)]
    exact this
  · intro h i j hi hj hij
    have := h i j hij (by simpa using hj)
    simp only [List.getD_eq_getElem?_getD, List.getElem?_map, List.getElem?_eq_getElem hj, List.getElem?_eq_getElem hi] at this
    exact this
theorem rise_length {α : Type} {key : α → Int} {xs ys : List α} (hx : Rise key xs) (hy : Rise key ys) (h : ∀ x ∈ xs, ∃ y ∈ ys, key y = key x) : xs.length ≤ ys.length := by
  induction ys generalizing xs with
  | nil =>
    cases xs with
    | nil => exact Nat.le_refl _
    | cons x s => obtain ⟨y, hy, _⟩ := h x List.mem_cons_self; cases hy
  | cons y t ih =>
    cases xs with
    | nil => exact Nat.zero_le _
    | cons x s =>
      have hx2 := List.pairwise_cons.1 hx
      have hy2 := List.pairwise_cons.1 hy
      refine Nat.succ_le_succ (ih hx2.2 hy2.2 fun z hz => ?_)
      obtain ⟨v, hv, e⟩ := h z (List.mem_cons_of_mem _ hz)
      obtain ⟨u, hu, e2⟩ := h x List.mem_cons_self
      have h1 := hx2.1 z hz
      rcases List.mem_cons.1 hv with rfl | hv
      · rcases List.mem_cons.1 hu with rfl | hu
        · omega
        · have := hy2.1 u hu; omega
      · exact ⟨v, hv, e⟩
theorem contains_iff (xs : List S32) (q : Int) : (keysOf xs).contains q = true ↔ find S32.f0 q xs ≠ none := by
  rw [List.contains_iff_mem, Ne, find_none]
  unfold keysOf
  rw [List.mem_map]
  constructor
  · rintro ⟨x, hx, e⟩ h; exact h x hx e
  · intro h
    apply Classical.byContradiction
    intro hn
    exact h fun x hx e => hn ⟨x, hx, e⟩
/-- Under a key's rank lies the thing that is found. -/
theorem rank_find {m : List S32} (hm : Rise S32.f0 m) {q : Int} {x : S32} (h : find S32.f0 q m = some x) : rankOf (keysOf m) q < m.length ∧ rd_T32 m (rankOf (keysOf m) q : Nat) = x := by
  have hr := (rise_iff m).1 hm
  have hc := (there_iff (keysOf m) q hr).1 ((contains_iff m q).2 (by rw [h]; simp))
  have hl : rankOf (keysOf m) q < m.length := by have := hc.1; simpa [keysOf] using this
  refine ⟨hl, ?_⟩
  rw [rd_get m _ hl]
  have hk : (m[rankOf (keysOf m) q]).f0 = q := by
    have := hc.2
    generalize rankOf (keysOf m) q = r at *
    simp only [keysOf, List.getD_eq_getElem?_getD, List.getElem?_map] at this
    rw [List.getElem?_eq_getElem hl] at this
    exact this
  have := find_mem hm (List.getElem_mem hl)
  rw [hk, h] at this
  exact (Option.some.inj this).symm
/-- For all fuel from some on. -/
def Ev (f : Nat → Option Bool) : Prop := ∃ K, ∀ k, K ≤ k → f k = some true
theorem Ev.succ {f g : Nat → Option Bool} (h : Ev g) (M : Nat) (hf : ∀ k, M ≤ k → g k = some true → f (k + 1) = some true) : Ev f := by
  obtain ⟨K, hK⟩ := h
  refine ⟨max K M + 1, fun k hk => ?_⟩
  obtain ⟨k, rfl⟩ : ∃ m, k = m + 1 := ⟨k - 1, by omega⟩
  exact hf k (by omega) (hK k (by omega))
theorem rd_L3_get (l : List (List S32)) (i : Nat) (h : i < l.length) : rd_L3 l (i : Int) = l[i] := by
  simp [rd_L3, List.getD_eq_getElem?_getD, List.getElem?_eq_getElem h]
section
variable (l : List (List S32)) (m : List S32)
/-- What is known of the lists and of their merge. -/
structure Known : Prop where
  small : l.length + (l.map List.length).sum ≤ 1048576
  rise : ∀ xs ∈ l, Rise S32.f0 xs
  eq : m = mergeL S32.f0 l
variable {l m}
theorem Known.each (h : Known l m) {i : Nat} (hi : i < l.length) : l[i].length ≤ 1048576 := by
  have h1 := len_le_total (List.getElem_mem hi)
  have := h.small
  unfold total at h1
  omega
theorem Known.mlen (h : Known l m) : m.length ≤ (l.map List.length).sum := by rw [h.eq]; exact mergeL_length l
theorem Known.mrise (h : Known l m) : Rise S32.f0 m := by rw [h.eq]; exact mergeL_rise h.rise
theorem Known.find_ (h : Known l m) (q : Int) : MergeL.find S32.f0 q m = MergeL.look S32.f0 q l := by rw [h.eq]; exact mergeL_find h.rise q
theorem look_at {q : Int} {x : S32} : ∀ (l : List (List S32)) (i : Nat) (hi : i < l.length), MergeL.find S32.f0 q l[i] = some x → (∀ j (hj : j < i), MergeL.find S32.f0 q (l[j]'(Nat.lt_trans hj hi)) = none) → MergeL.look S32.f0 q l = some x := by
  intro l
  induction l with
  | nil => intro i hi; simp at hi
  | cons a t ih =>
    intro i hi h1 h2
    cases i with
    | zero => simp only [MergeL.look]; rw [show MergeL.find S32.f0 q a = some x from h1]; rfl
    | succ i =>
      simp only [MergeL.look]
      rw [show MergeL.find S32.f0 q a = none from h2 0 (by omega), Option.none_or]
      exact ih i (by simpa using hi) h1 (fun j hj => h2 (j + 1) (by omega))
theorem look_mem {q : Int} {l : List (List S32)} {xs : List S32} {x : S32} (h1 : xs ∈ l) (h2 : x ∈ xs) (h3 : x.f0 = q) : MergeL.look S32.f0 q l ≠ none := by
  intro h
  exact look_none.1 h xs h1 x h2 h3
theorem of_is (xs : List S32) (h : xs.length ≤ 1048576) (k : Nat) (hk : 1048577 ≤ k) : inclineref03_Of.f k xs = some (keysOf xs) := refOf_f xs (by omega) k (by omega)
theorem rank_is (xs : List S32) (h : xs.length ≤ 1048576) (hr : Rise S32.f0 xs) (q : Int) (k : Nat) (hk : 1048577 ≤ k) : inclineref03_Rank.f k (keysOf xs) q = some ((rankOf (keysOf xs) q : Int), (keysOf xs).contains q) := by
  have hl : (keysOf xs).length = xs.length := by simp [keysOf]
  have := refRank_f (keysOf xs) q (by omega) k (by omega)
  rw [this, if_pos ((rises_iff _).2 ((rise_iff xs).1 hr))]
theorem ev2 (h : Known l m) (s : Int) {i kk : Nat} (hi : i < l.length) (hk : kk < l[i].length) (hn : Ev fun k => inclinelaw13_MergeOnce.l1 k l true m s i ((kk + 1 : Nat) : Int)) :
    ∀ (d j : Nat) (first : Bool) (hji : j ≤ i), i ≤ j + d → (first = true ↔ ∀ j' (hj : j' < j), MergeL.find S32.f0 (l[i][kk]).f0 (l[j']'(by omega)) = none) →
    Ev fun k => inclinelaw13_MergeOnce.l2 k l true m s i kk (rankOf (keysOf m) (l[i][kk]).f0 : Int) first j := by
  have hsm := h.each hi
  have hll := h.small
  have hml := h.mlen
  have e1 : rd_L3 l (i : Int) = l[i] := rd_L3_get l i hi
  have e2 : rd_T32 l[i] (kk : Int) = l[i][kk] := rd_get _ _ hk
  have hmem := List.getElem_mem hi
  have hfi : MergeL.find S32.f0 (l[i][kk]).f0 l[i] = some l[i][kk] := find_mem (h.rise _ hmem) (List.getElem_mem hk)
  have hfm : MergeL.find S32.f0 (l[i][kk]).f0 m ≠ none := by rw [h.find_]; exact look_mem hmem (List.getElem_mem hk) rfl
  intro d
  induction d with
  | zero =>
    intro j first hj hd hf
    obtain rfl : j = i := by omega
    refine hn.succ 0 fun k _ hk1 => ?_
    simp only [inclinelaw13_MergeOnce.l2]
    rw [if_neg (by omega)]
    cases first with
    | false =>
      rw [if_neg (by simp), w64 (by omega) (by omega)]
      exact hk1
    | true =>
      have hl := look_at l j hi hfi (hf.1 rfl)
      obtain ⟨r1, r2⟩ := rank_find h.mrise ((h.find_ _).trans hl)
      rw [if_pos rfl, if_pos (by omega), if_pos (by omega), if_pos (by omega), if_pos (by omega), if_pos (by omega), e1, if_pos (by omega), e2, r2, if_neg (by simp), w64 (by omega) (by omega)]
      exact hk1
  | succ d ih =>
    intro j first hj hd hf
    by_cases hji : j < i
    · have hjl : j < l.length := by omega
      have hsj := h.each hjl
      have e3 : rd_L3 l (j : Int) = l[j] := rd_L3_get l j hjl
      have hnx := ih (j + 1) (if first = true then !(keysOf l[j]).contains (l[i][kk]).f0 else false) (by omega) (by omega) (by
        by_cases hff : first = true
        · rw [if_pos hff, Bool.not_eq_true', Bool.eq_false_iff, Ne, contains_iff]
          have h1 := hf.1 hff
          constructor
          · intro hc j' hj'
            rcases Nat.lt_or_ge j' j with hlt | hge
            · exact h1 j' hlt
            · obtain rfl : j' = j := by omega
              exact Classical.byContradiction hc
          · intro hall hc
            exact hc (hall j (by omega))
        · rw [if_neg hff]
          constructor
          · intro hc; cases hc
          · intro hall
            exact absurd (hf.2 fun j' hj' => hall j' (by omega)) hff)
      refine hnx.succ 1048577 fun k hk0 hk1 => ?_
      simp only [inclinelaw13_MergeOnce.l2]
      rw [if_pos (by omega), if_pos (by omega), if_pos (by omega), e3, of_is _ hsj k hk0]
      simp only [Option.bind_some]
      rw [if_pos (by omega), if_pos (by omega), if_pos (by omega), e1, if_pos (by omega), e2, rank_is _ hsj (h.rise _ (List.getElem_mem hjl)) _ k hk0]
      simp only [Option.bind_some]
      rw [w64 (by omega) (by omega)]
      cases first with
      | true =>
        rw [if_pos rfl] at hk1
        rw [if_pos rfl]
        exact hk1
      | false =>
        rw [if_neg (by simp)] at hk1
        rw [if_neg (by simp)]
        exact hk1
    · exact ih j first hj (by omega) hf
theorem ev1 (h : Known l m) (s : Int) {i : Nat} (hi : i < l.length) (hn : Ev fun k => inclinelaw13_MergeOnce.l0 k l true m s ((i + 1 : Nat) : Int)) :
    ∀ (d kk : Nat), kk ≤ l[i].length → l[i].length ≤ kk + d → Ev fun k => inclinelaw13_MergeOnce.l1 k l true m s i kk := by
  have hsm := h.each hi
  have hll := h.small
  have hml := h.mlen
  have e1 : rd_L3 l (i : Int) = l[i] := rd_L3_get l i hi
  intro d
  induction d with
  | zero =>
    intro kk hk hd
    refine hn.succ 0 fun k _ hk1 => ?_
    simp only [inclinelaw13_MergeOnce.l1]
    rw [if_pos (by omega), if_pos (by omega), e1, if_neg (by omega), w64 (by omega) (by omega)]
    exact hk1
  | succ d ih =>
    intro kk hk hd
    by_cases hlt : kk < l[i].length
    · have e2 : rd_T32 l[i] (kk : Int) = l[i][kk] := rd_get _ _ hlt
      have hfm : MergeL.find S32.f0 (l[i][kk]).f0 m ≠ none := by rw [h.find_]; exact look_mem (List.getElem_mem hi) (List.getElem_mem hlt) rfl
      have h2 := ev2 h s hi hlt (ih (kk + 1) (by omega) (by omega)) i 0 true (by omega) (by omega) ⟨fun _ j' hj' => by omega, fun _ => rfl⟩
      refine h2.succ 1048577 fun k hk0 hk1 => ?_
      simp only [inclinelaw13_MergeOnce.l1]
      rw [if_pos (by omega), if_pos (by omega), e1, if_pos (by omega), of_is m (by omega) k hk0]
      simp only [Option.bind_some]
      rw [if_pos (by omega), e2, rank_is m (by omega) h.mrise _ k hk0]
      simp only [Option.bind_some]
      rw [if_pos ((contains_iff m _).2 hfm)]
      exact hk1
    · obtain rfl : kk = l[i].length := by omega
      exact ih _ (Nat.le_refl _) (by omega)
theorem sum_take_succ (l : List (List S32)) (i : Nat) (hi : i < l.length) : ((l.take (i + 1)).map List.length).sum = ((l.take i).map List.length).sum + l[i].length := by
  rw [List.take_succ_eq_append_getElem hi, List.map_append, List.sum_append]
  simp
theorem sum_take_le (l : List (List S32)) (i : Nat) : ((l.take i).map List.length).sum ≤ (l.map List.length).sum := by
  conv => rhs; rw [← List.take_append_drop i l, List.map_append, List.sum_append]
  omega
theorem ev0 (h : Known l m) : ∀ (d i : Nat), i ≤ l.length → l.length ≤ i + d → Ev fun k => inclinelaw13_MergeOnce.l0 k l true m ((((l.take i).map List.length).sum : Nat) : Int) i := by
  have hll := h.small
  have hml := h.mlen
  intro d
  induction d with
  | zero =>
    intro i hi hd
    obtain rfl : i = l.length := by omega
    refine ⟨1048579, fun k hk => ?_⟩
    obtain ⟨k, rfl⟩ : ∃ m, k = m + 1 := ⟨k - 1, by omega⟩
    simp only [inclinelaw13_MergeOnce.l0]
    rw [if_neg (by omega), if_pos trivial, List.take_length, if_pos (by omega), of_is m (by omega) k (by omega)]
    simp only [Option.bind_some]
    have hl : (keysOf m).length = m.length := by simp [keysOf]
    rw [refRising_f (keysOf m) (by omega) k (by omega), (rises_iff _).2 ((rise_iff m).1 h.mrise)]
    rfl
  | succ d ih =>
    intro i hi hd
    by_cases hlt : i < l.length
    · have hsm := h.each hlt
      have e1 : rd_L3 l (i : Int) = l[i] := rd_L3_get l i hlt
      have hs := sum_take_succ l i hlt
      have hle := sum_take_le l i
      have h0 := ih (i + 1) (by omega) (by omega)
      rw [hs] at h0
      have h1 := ev1 h _ hlt h0 l[i].length 0 (by omega) (by omega)
      have hmem := List.getElem_mem hlt
      have hlen : l[i].length ≤ m.length := rise_length (h.rise _ hmem) h.mrise fun x hx => by
        have := (h.find_ x.f0).symm ▸ look_mem (q := x.f0) hmem hx rfl
        cases hf : MergeL.find S32.f0 x.f0 m with
        | none => exact absurd hf this
        | some y => exact ⟨y, (find_some hf).1, (find_some hf).2⟩
      refine h1.succ 0 fun k _ hk1 => ?_
      simp only [inclinelaw13_MergeOnce.l0]
      rw [if_pos (by omega), if_pos (by omega), e1, if_neg (by omega), w64 (by omega) (by omega)]
      exact hk1
    · obtain rfl : i = l.length := by omega
      exact ih _ (Nat.le_refl _) (by omega)
end
theorem rising_is (l : List (List S32)) (hs : l.length + (l.map List.length).sum ≤ 1048576) : ∀ (d i : Nat), i ≤ l.length → l.length ≤ i + d → ∀ k, 1048577 + d < k → inclinelaw13_rising.l0 k l i = some ((l.drop i).all fun xs => risesTo (keysOf xs) (keysOf xs).length) := by
  intro d
  induction d with
  | zero =>
    intro i hi hd k hk
    obtain ⟨k, rfl⟩ : ∃ m, k = m + 1 := ⟨k - 1, by omega⟩
    simp only [inclinelaw13_rising.l0]
    rw [if_neg (by omega), List.drop_eq_nil_of_le (by omega)]
    rfl
  | succ d ih =>
    intro i hi hd k hk
    by_cases hlt : i < l.length
    · obtain ⟨k, rfl⟩ : ∃ m, k = m + 1 := ⟨k - 1, by omega⟩
      have hsm : l[i].length ≤ 1048576 := by
        have h1 := len_le_total (List.getElem_mem hlt)
        unfold total at h1
        omega
      have hl : (keysOf l[i]).length = l[i].length := by simp [keysOf]
      simp only [inclinelaw13_rising.l0]
      rw [if_pos (by omega), if_pos (by omega), rd_L3_get l i hlt, of_is _ hsm k (by omega)]
      simp only [Option.bind_some]
      rw [refRising_f (keysOf l[i]) (by omega) k (by omega)]
      simp only [Option.bind_some]
      rw [List.drop_eq_getElem_cons hlt, List.all_cons]
      cases hr : risesTo (keysOf l[i]) (keysOf l[i]).length with
      | true =>
        rw [if_pos rfl, w64 (by omega) (by omega), Bool.true_and]
        exact ih (i + 1) (by omega) (by omega) k (by omega)
      | false => rw [if_neg (by simp), Bool.false_and]
    · exact ih i hi (by omega) k (by omega)
theorem rising_f (l : List (List S32)) (hs : l.length + (l.map List.length).sum ≤ 1048576) (k : Nat) (hk : 3145728 ≤ k) : inclinelaw13_rising.f k l = some (l.all fun xs => risesTo (keysOf xs) (keysOf xs).length) := by
  have := rising_is l hs l.length 0 (by omega) (by omega) k (by omega)
  simpa [inclinelaw13_rising.f] using this
theorem all_rise {l : List (List S32)} (h : (l.all fun xs => risesTo (keysOf xs) (keysOf xs).length) = true) : ∀ xs ∈ l, Rise S32.f0 xs := fun xs hx => by
  have := List.all_eq_true.1 h xs hx
  exact (rise_iff xs).2 ((rises_iff _).1 this)
theorem entries_small (l : List (List S32)) (hs : l.length + (l.map List.length).sum ≤ 10485760) : merge_Entries.f l = some (mergeL S32.f0 l) := by
  have h1 : ∀ xs ∈ l, xs.length ≤ (l.map List.length).sum := fun xs hx => len_le_total hx
  have h2 : (mergeL S32.f0 l).length ≤ (l.map List.length).sum := mergeL_length l
  unfold merge_Entries.f
  rw [if_pos]
  unfold merge_Entries.fits
  rw [Bool.and_eq_true, Bool.and_eq_true, decide_eq_true_eq, decide_eq_true_eq, List.all_eq_true]
  exact ⟨⟨by omega, fun xs hx => decide_eq_true (by have := h1 xs hx; omega)⟩, by omega⟩
theorem MergeOnce (l : List (List S32)) (hs : l.length + (l.map List.length).sum ≤ 1048576) : ∃ k, inclinelaw13_MergeOnce.f k l = some true := by
  have he := entries_small l (by omega)
  cases hr : l.all fun xs => risesTo (keysOf xs) (keysOf xs).length with
  | true =>
    obtain ⟨K, hK⟩ := ev0 (l := l) (m := mergeL S32.f0 l) ⟨hs, all_rise hr, rfl⟩ l.length 0 (by omega) (by omega)
    refine ⟨max K 3145728, ?_⟩
    have h1 := hK (max K 3145728) (by omega)
    have h2 := rising_f l hs (max K 3145728) (by omega)
    unfold inclinelaw13_MergeOnce.f
    rw [show inclinelaw13_shown.f = some true from rfl, he, h2, hr]
    simp only [Option.bind_some, if_true]
    exact h1
  | false =>
    refine ⟨3145728, ?_⟩
    have h2 := rising_f l hs 3145728 (by omega)
    unfold inclinelaw13_MergeOnce.f
    rw [show inclinelaw13_shown.f = some true from rfl, he, h2, hr]
    simp
end Go.Proofs.Ytojbfjfjhfnopaa.Pure
end

section
/- Entries of rows that stand in the text. -/
namespace Go.Proofs.Ytojbfjfjhfnopaa.G
open Go.RowKit Go.Shelf RangeD Go.Proofs.YtojbfjfjhfnopaaW.PrintWords Go.Proofs.YtojbfjfjhfnopaaW.PrintLast Go.Proofs.YtojbfjfjhfnopaaW.PrintMore
open SeqE MergeL MergeE
set_option linter.unusedVariables false
/-- A row as it stands in a text: where it lies, its room, its list. -/
abbrev RowLit := Option Addr × Nat × List S32
abbrev RowLit.v (r : RowLit) : Value := .slice r.1 r.2.2.length r.2.1
def RowLit.ok (W : World) (r : RowLit) : Prop := Kd.C k32 W r.1 r.2.2.length r.2.2 ∧ r.2.2.length ≤ r.2.1
theorem lit_rows (W : World) (rows : List RowLit) (cs : Array Value) (hcs : cs.toList = rows.map RowLit.v) (hr : ∀ r ∈ rows, RowLit.ok W r) (hm : rows.length ≤ 1000) : Kd.C (Kd.slice 32 k32) (W.alloc (.cells cs 25)) (some ⟨W.heap.size, 0, none⟩) (rows.map (·.2.2)).length (rows.map (·.2.2)) := by
  refine ⟨rfl, by rw [List.length_map]; omega, fun _ => ⟨⟨W.heap.size, 0, none⟩, rfl, fun j p hj => ?_⟩⟩
  rw [List.getElem?_map] at hj
  cases h : rows[j]? with
  | none => rw [h] at hj; cases hj
  | some r =>
    rw [h] at hj
    injection hj with hj
    subst hj
    obtain ⟨h1, h2⟩ := hr r (List.mem_of_getElem? h)
    refine ⟨[r.v], rfl, ⟨r.1, r.2.1, rfl, h2, Kd.C_alloc h1 _⟩, fun i u hu => ?_⟩
    have hc : cs[j]? = some r.v := by rw [← Array.getElem?_toList, hcs, List.getElem?_map, h]; rfl
    have hadd : (⟨W.heap.size, 0, none⟩ : Addr).add j = ⟨W.heap.size, j, none⟩ := by unfold Addr.add; split <;> simp_all
    match i, hu with
    | 0, hu =>
      simp only [List.getElem?_cons_zero, Option.some.injEq] at hu
      subst hu
      show (W.alloc (.cells cs 25)).cell? ((⟨W.heap.size, 0, none⟩ : Addr).add (j * 1 + 0)) = _
      rw [Nat.mul_one, Nat.add_zero, hadd, cell_of_row _ _ j _ _ _ (World.alloc_heap_new W _)]
      exact hc
    | i + 1, hu => simp at hu
theorem ent_rows (W : World) (rows : List RowLit) (cs : Array Value) (n : Nat) (hn : (rows.map (·.2.2)).length = n) (m : List S32) (hmm : mergeL S32.f0 (rows.map (·.2.2)) = m) (hcs : cs.toList = rows.map RowLit.v) (hr : ∀ r ∈ rows, RowLit.ok W r) (hm : rows.length ≤ 1000)
    (hs : (rows.map (·.2.2)).length + ((rows.map (·.2.2)).map List.length).sum ≤ 10485760) :
    Calls Try.prog 13 #[.slice (some ⟨W.heap.size, 0, none⟩) n n] (W.alloc (.cells cs 25)) fun e w' => ∃ A c, e = .returned (.slice A m.length c) ∧ RowLit.ok w' (A, c, m) ∧ Below W.heap.size W w' := by
  subst hn
  have he := Pure.entries_small _ hs
  rw [hmm] at he
  have hb : Below W.heap.size W (W.alloc (.cells cs 25)) := (Below.refl _ W).alloc (Nat.le_refl _) _
  refine (merge_Entries.calls _ _ _ m _ (lit_rows W rows cs hcs hr hm) (Nat.le_refl _) he).mono ?_
  rintro e w' ⟨v, rfl, h1, h2⟩
  obtain ⟨A, c, rfl, h3, h4⟩ := Kd.R_reads h1
  exact ⟨A, c, rfl, ⟨h4, h3⟩, hb.trans (h2.mono hb.size)⟩
theorem RowLit.ok.below {W W1 : World} {r : RowLit} (h : RowLit.ok W r) (hb : Below W.heap.size W W1) : RowLit.ok W1 r := ⟨Kd.C_below h.1 hb, h.2⟩
theorem RowLit.ok.alloc {W : World} {r : RowLit} (h : RowLit.ok W r) (o : Obj) : RowLit.ok (W.alloc o) r := ⟨Kd.C_alloc h.1 _, h.2⟩
theorem RowLit.empty (W : World) (A : Option Addr) (c : Nat) : RowLit.ok W (A, c, []) := ⟨⟨rfl, by simp, fun h => absurd h (by simp)⟩, Nat.zero_le _⟩
theorem same_self (l : List S32) (hl : l.length ≤ 17592186044416) : ∀ (d : Nat) (i : Nat) (k : Nat), l.length ≤ i + d → d < k → inclinelaw13_same.l0 k l l i = some true := by
  intro d
  induction d with
  | zero =>
    intro i k h1 hk
    obtain ⟨k, rfl⟩ : ∃ m, k = m + 1 := ⟨k - 1, by omega⟩
    simp only [inclinelaw13_same.l0]
    rw [if_neg (by omega)]
  | succ d ih =>
    intro i k h1 hk
    by_cases hlt : i < l.length
    · obtain ⟨k, rfl⟩ : ∃ m, k = m + 1 := ⟨k - 1, by omega⟩
      have := ih (i + 1) k (by omega) (by omega)
      simp only [inclinelaw13_same.l0]
      rw [if_pos (by omega), if_pos (by omega), if_pos (by omega), if_neg (by simp), Pure.w64 (by omega) (by omega)]
      exact this
    · exact ih i k (by omega) (by omega)
theorem same_f {l m : List S32} (e : l = m) (hl : l.length ≤ 17592186044416) (k : Nat) (hk : l.length < k) : inclinelaw13_same.f k l m = some true := by
  subst e
  unfold inclinelaw13_same.f
  rw [if_pos rfl]
  exact same_self l hl l.length 0 k (by omega) hk
theorem same_rows (W : World) (r s : RowLit) (hr : RowLit.ok W r) (hs : RowLit.ok W s) (e : r.2.2 = s.2.2) (hl : r.2.2.length ≤ 10485760) : Calls Try.prog 14 #[.slice r.1 r.2.2.length r.2.1, .slice s.1 s.2.2.length s.2.1] W fun e w' => e = .returned (.bool true) ∧ ∃ n, w' = W.drewN n := by
  refine (inclinelaw13_same.calls (r.2.2.length + 1) r.1 r.2.1 r.2.2 s.1 s.2.1 s.2.2 true W hr.1 hr.2 hs.1 hs.2 (same_f e (by omega) _ (by omega))).mono ?_
  rintro e w' ⟨rfl, ⟨nd, h⟩⟩
  exact ⟨rfl, nd, h⟩
end Go.Proofs.Ytojbfjfjhfnopaa.G
end

section
/- The walk of MergeGroups. -/
namespace Go.Proofs.Ytojbfjfjhfnopaa
open Go.RowKit Go.Proofs.YtojbfjfjhfnopaaW.PrintWords Go.Proofs.YtojbfjfjhfnopaaW.PrintLast Go.Proofs.Ytojbfjfjhfnopaa.Reading G MergeL
set_option linter.unusedVariables false
set_option linter.unusedSimpArgs false
namespace Groups
variable {a b c : List S32} (ha : Rise S32.f0 a) (hb : Rise S32.f0 b) (hc : Rise S32.f0 c)
theorem r1 {a : List S32} (ha : Rise S32.f0 a) : ∀ xs ∈ [a], Rise S32.f0 xs := fun xs h => by rw [List.mem_singleton] at h; subst h; exact ha
theorem r2 {a b : List S32} (ha : Rise S32.f0 a) (hb : Rise S32.f0 b) : ∀ xs ∈ [a, b], Rise S32.f0 xs := fun xs h => by
  rcases List.mem_cons.1 h with h | h
  · subst h; exact ha
  · exact r1 hb xs h
theorem r3 {a b c : List S32} (ha : Rise S32.f0 a) (hb : Rise S32.f0 b) (hc : Rise S32.f0 c) : ∀ xs ∈ [a, b, c], Rise S32.f0 xs := fun xs h => by
  rcases List.mem_cons.1 h with h | h
  · subst h; exact ha
  · exact r2 hb hc xs h
theorem r0 : Rise S32.f0 ([] : List S32) := List.Pairwise.nil
include ha hb hc in
theorem left : mergeL S32.f0 [a, b, c] = mergeL S32.f0 [mergeL S32.f0 [a, b], c] :=
  mergeL_ext (r3 ha hb hc) (mergeL_rise (r2 (mergeL_rise (r2 ha hb)) hc)) fun k => by
    rw [mergeL_find (r2 (mergeL_rise (r2 ha hb)) hc)]
    simp only [MergeL.look, mergeL_find (r2 ha hb), Option.or_none, Option.or_assoc]
include ha hb hc in
theorem right : mergeL S32.f0 [a, b, c] = mergeL S32.f0 [a, mergeL S32.f0 [b, c]] :=
  mergeL_ext (r3 ha hb hc) (mergeL_rise (r2 ha (mergeL_rise (r2 hb hc)))) fun k => by
    rw [mergeL_find (r2 ha (mergeL_rise (r2 hb hc)))]
    simp only [MergeL.look, mergeL_find (r2 hb hc), Option.or_none, Option.or_assoc]
include ha in
theorem one : mergeL S32.f0 [a] = a := mergeL_ext (r1 ha) ha fun k => by simp only [MergeL.look, Option.or_none]
include ha in
theorem twice : mergeL S32.f0 [a, a] = a := mergeL_ext (r2 ha ha) ha fun k => by simp only [MergeL.look, Option.or_none, Option.or_self]
include ha hb in
theorem mid : mergeL S32.f0 [a, [], b] = mergeL S32.f0 [[], a, b] :=
  mergeL_ext (r3 ha r0 hb) (mergeL_rise (r3 r0 ha hb)) fun k => by
    rw [mergeL_find (r3 r0 ha hb)]
    have e : MergeL.find S32.f0 k ([] : List S32) = none := rfl
    simp only [MergeL.look, e, Option.none_or, Option.or_none]
end Groups
namespace G
theorem ent_rows_at {W : World} (g : Nat) (hg : W.heap.size = g) (rows : List RowLit) (cs : Array Value) (n : Nat) (hn : (rows.map (·.2.2)).length = n) (m : List S32) (hmm : mergeL S32.f0 (rows.map (·.2.2)) = m) (hcs : cs.toList = rows.map RowLit.v) (hr : ∀ r ∈ rows, RowLit.ok W r) (hm : rows.length ≤ 1000)
    (hs : (rows.map (·.2.2)).length + ((rows.map (·.2.2)).map List.length).sum ≤ 10485760) :
    Calls Try.prog 13 #[.slice (some ⟨g, 0, none⟩) n n] (W.alloc (.cells cs 25)) fun e w' => ∃ A c, e = .returned (.slice A m.length c) ∧ RowLit.ok w' (A, c, m) ∧ Below W.heap.size W w' := by
  subst hg
  exact ent_rows W rows cs n hn m hmm hcs hr hm hs
def St (w W : World) (rs : List RowLit) : Prop := Below w.heap.size w W ∧ ∀ r ∈ rs, RowLit.ok W r
section
variable {w W W1 : World} {rs : List RowLit}
theorem St.step (h : St w W rs) (hb : Below W.heap.size W W1) : St w W1 rs := ⟨h.1.trans (hb.mono h.1.size), fun r hr => (h.2 r hr).below hb⟩
theorem St.alloc (h : St w W rs) (o : Obj) : St w (W.alloc o) rs := h.step ((Below.refl _ W).alloc (Nat.le_refl _) _)
theorem St.drawn {n : Nat} (h : St w W rs) (e : W1 = W.drewN n) : St w W1 rs := h.step (by rw [e]; exact ⟨rfl, rfl, rfl, Nat.le_refl _, fun _ _ => rfl⟩)
theorem St.add {r : RowLit} (h : St w W rs) (hr : RowLit.ok W r) : St w W (r :: rs) := ⟨h.1, fun x hx => (List.mem_cons.1 hx).elim (fun e => e ▸ hr) (h.2 x)⟩
theorem St.get {r : RowLit} (h : St w W rs) (i : Nat) (hi : rs[i]? = some r) : RowLit.ok W r := h.2 r (List.mem_of_getElem? hi)
theorem okl1 {W : World} {a : RowLit} (ha : RowLit.ok W a) : ∀ r ∈ [a], RowLit.ok W r := fun r h => by rw [List.mem_singleton] at h; subst h; exact ha
theorem okl2 {W : World} {a b : RowLit} (ha : RowLit.ok W a) (hb : RowLit.ok W b) : ∀ r ∈ [a, b], RowLit.ok W r := fun r h => (List.mem_cons.1 h).elim (fun e => e ▸ ha) (okl1 hb r)
theorem okl3 {W : World} {a b c : RowLit} (ha : RowLit.ok W a) (hb : RowLit.ok W b) (hc : RowLit.ok W c) : ∀ r ∈ [a, b, c], RowLit.ok W r := fun r h => (List.mem_cons.1 h).elim (fun e => e ▸ ha) (okl2 hb hc r)
end
end G
set_option maxHeartbeats 8000000 in
set_option maxRecDepth 1000000 in
theorem Walks.MergeGroups {w : World} (A0 : Option Addr) (c0 : Nat) (l0 : List S32) (hC0 : Kd.C k32 w A0 l0.length l0) (hl0 : l0.length ≤ c0) (hg0 : (l0.length * 24 ≤ reach ∧ l0.length ≤ maxLen) ∧ ∀ x ∈ l0, (Lit.int .u64 x.f0).wf = true ∧ (Lit.int .u64 x.f1).wf = true ∧ True) (A1 : Option Addr) (c1 : Nat) (l1 : List S32) (hC1 : Kd.C k32 w A1 l1.length l1) (hl1 : l1.length ≤ c1) (hg1 : (l1.length * 24 ≤ reach ∧ l1.length ≤ maxLen) ∧ ∀ x ∈ l1, (Lit.int .u64 x.f0).wf = true ∧ (Lit.int .u64 x.f1).wf = true ∧ True) (A2 : Option Addr) (c2 : Nat) (l2 : List S32) (hC2 : Kd.C k32 w A2 l2.length l2) (hl2 : l2.length ≤ c2) (hg2 : (l2.length * 24 ≤ reach ∧ l2.length ≤ maxLen) ∧ ∀ x ∈ l2, (Lit.int .u64 x.f0).wf = true ∧ (Lit.int .u64 x.f1).wf = true ∧ True)
    (hb : l0.length + 1 + (l1.length + 1) + (l2.length + 1) ≤ 1048576) :
    Calls Try.prog 8 #[.slice A0 l0.length c0, .slice A1 l1.length c1, .slice A2 l2.length c2] w fun e w' => e = .returned (.bool true) ∧ Below w.heap.size w w' := by
  have S0 : Hid (St w w [(A0, c0, l0), (A1, c1, l1), (A2, c2, l2)]) := Lib.hid ⟨Below.refl _ w, okl3 ⟨hC0, hl0⟩ ⟨hC1, hl1⟩ ⟨hC2, hl2⟩⟩
  have HS : Hid (l0.length + l1.length + l2.length ≤ 1048576) := Lib.hid (by omega)
  have hris := Pure.rising_f [l0, l1, l2] (by simp; omega) 3145728 (Nat.le_refl _)
  clear hC0 hl0 hg0 hC1 hl1 hg1 hC2 hl2 hg2 hb
  go_enter Try.func8, Try.ntmps8
  go_upto_region 4 with (go_at_call 10; go_must (refine (inclinelaw13_shown.calls true _ rfl).mono ?_; rintro e W1 ⟨rfl, hb⟩; have S1 := Lib.hid (S0.out.step hb); clear hb))
  obtain ⟨rr, hrr⟩ : ∃ rr, ([l0, l1, l2].all fun xs => Pure.risesTo (Pure.keysOf xs) (Pure.keysOf xs).length) = rr := ⟨_, rfl⟩
  rw [hrr] at hris
  have HR := Lib.hid hris
  clear hris
  cases rr with
  | false =>
    go_wp2_with (go_at_call 27; go_must (refine (inclinelaw13_rising.calls 3145728 _ 3 [l0, l1, l2] false _ (lit_rows W1 [(A0, c0, l0), (A1, c1, l1), (A2, c2, l2)] #[.slice A0 l0.length c0, .slice A1 l1.length c1, .slice A2 l2.length c2] rfl (okl3 (S1.out.get 0 rfl) (S1.out.get 1 rfl) (S1.out.get 2 rfl)) (by simp)) (Nat.le_refl _) HR.out).mono ?_; rintro e W2 ⟨rfl, hb⟩; have S2 := Lib.hid ((S1.out.alloc _).step hb); clear hb))
    refine bodyPost_ret (results_tmp rfl _ _ _) rfl ?_
    exact ⟨rfl, S2.out.1⟩
  | true =>
    have hall := Pure.all_rise hrr
    have ra := hall l0 (by simp)
    have rb := hall l1 (by simp)
    have rc := hall l2 (by simp)
    have EL := Lib.hid (Groups.left ra rb rc)
    have ER := Lib.hid (Groups.right ra rb rc)
    have EO := Lib.hid (Groups.one ra)
    have ET := Lib.hid (Groups.twice ra)
    have EX := Lib.hid (Groups.mid ra rb)
    clear hall hrr ra rb rc
    go_upto_region 6 with (go_at_call 27; go_must (refine (inclinelaw13_rising.calls 3145728 _ 3 [l0, l1, l2] true _ (lit_rows W1 [(A0, c0, l0), (A1, c1, l1), (A2, c2, l2)] #[.slice A0 l0.length c0, .slice A1 l1.length c1, .slice A2 l2.length c2] rfl (okl3 (S1.out.get 0 rfl) (S1.out.get 1 rfl) (S1.out.get 2 rfl)) (by simp)) (Nat.le_refl _) HR.out).mono ?_; rintro e W2 ⟨rfl, hb⟩; have S2 := Lib.hid ((S1.out.alloc _).step hb); clear hb))
    have Lmall := mergeL_length (key := S32.f0) [l0, l1, l2]
    obtain ⟨mall, hmall⟩ : ∃ m, mergeL S32.f0 [l0, l1, l2] = m := ⟨_, rfl⟩
    rw [hmall] at Lmall
    simp only [total, List.map_cons, List.map_nil, List.sum_cons, List.sum_nil, List.length_nil] at Lmall
    have Lmab := mergeL_length (key := S32.f0) [l0, l1]
    obtain ⟨mab, hmab⟩ : ∃ m, mergeL S32.f0 [l0, l1] = m := ⟨_, rfl⟩
    rw [hmab] at Lmab
    simp only [total, List.map_cons, List.map_nil, List.sum_cons, List.sum_nil, List.length_nil] at Lmab
    have Lmleft := mergeL_length (key := S32.f0) [mab, l2]
    obtain ⟨mleft, hmleft⟩ : ∃ m, mergeL S32.f0 [mab, l2] = m := ⟨_, rfl⟩
    rw [hmleft] at Lmleft
    simp only [total, List.map_cons, List.map_nil, List.sum_cons, List.sum_nil, List.length_nil] at Lmleft
    have Lmbc := mergeL_length (key := S32.f0) [l1, l2]
    obtain ⟨mbc, hmbc⟩ : ∃ m, mergeL S32.f0 [l1, l2] = m := ⟨_, rfl⟩
    rw [hmbc] at Lmbc
    simp only [total, List.map_cons, List.map_nil, List.sum_cons, List.sum_nil, List.length_nil] at Lmbc
    have Lmright := mergeL_length (key := S32.f0) [l0, mbc]
    obtain ⟨mright, hmright⟩ : ∃ m, mergeL S32.f0 [l0, mbc] = m := ⟨_, rfl⟩
    rw [hmright] at Lmright
    simp only [total, List.map_cons, List.map_nil, List.sum_cons, List.sum_nil, List.length_nil] at Lmright
    have Lmone := mergeL_length (key := S32.f0) [l0]
    obtain ⟨mone, hmone⟩ : ∃ m, mergeL S32.f0 [l0] = m := ⟨_, rfl⟩
    rw [hmone] at Lmone
    simp only [total, List.map_cons, List.map_nil, List.sum_cons, List.sum_nil, List.length_nil] at Lmone
    have Lmtwo := mergeL_length (key := S32.f0) [l0, l0]
    obtain ⟨mtwo, hmtwo⟩ : ∃ m, mergeL S32.f0 [l0, l0] = m := ⟨_, rfl⟩
    rw [hmtwo] at Lmtwo
    simp only [total, List.map_cons, List.map_nil, List.sum_cons, List.sum_nil, List.length_nil] at Lmtwo
    have Lmx := mergeL_length (key := S32.f0) [l0, [], l1]
    obtain ⟨mx, hmx⟩ : ∃ m, mergeL S32.f0 [l0, [], l1] = m := ⟨_, rfl⟩
    rw [hmx] at Lmx
    simp only [total, List.map_cons, List.map_nil, List.sum_cons, List.sum_nil, List.length_nil] at Lmx
    have Lmy := mergeL_length (key := S32.f0) [[], l0, l1]
    obtain ⟨my, hmy⟩ : ∃ m, mergeL S32.f0 [[], l0, l1] = m := ⟨_, rfl⟩
    rw [hmy] at Lmy
    simp only [total, List.map_cons, List.map_nil, List.sum_cons, List.sum_nil, List.length_nil] at Lmy
    have EL2 : Hid (mall = mleft) := Lib.hid (by rw [← hmleft, ← hmab, ← hmall]; exact EL.out)
    have ER2 : Hid (mall = mright) := Lib.hid (by rw [← hmright, ← hmbc, ← hmall]; exact ER.out)
    have EO2 : Hid (mone = l0) := Lib.hid (by rw [← hmone]; exact EO.out)
    have ET2 : Hid (mtwo = l0) := Lib.hid (by rw [← hmtwo]; exact ET.out)
    have EX2 : Hid (mx = my) := Lib.hid (by rw [← hmx, ← hmy]; exact EX.out)
    clear EL ER EO ET EX
    have HLall : Hid (mall.length ≤ 4194304) := Lib.hid (by have := HS.out; omega)
    have HLab : Hid (mab.length ≤ 4194304) := Lib.hid (by have := HS.out; omega)
    have HLleft : Hid (mleft.length ≤ 4194304) := Lib.hid (by have := HS.out; omega)
    have HLbc : Hid (mbc.length ≤ 4194304) := Lib.hid (by have := HS.out; omega)
    have HLright : Hid (mright.length ≤ 4194304) := Lib.hid (by have := HS.out; omega)
    have HLone : Hid (mone.length ≤ 4194304) := Lib.hid (by have := HS.out; omega)
    have HLtwo : Hid (mtwo.length ≤ 4194304) := Lib.hid (by have := HS.out; omega)
    have HLx : Hid (mx.length ≤ 4194304) := Lib.hid (by have := HS.out; omega)
    have HLy : Hid (my.length ≤ 4194304) := Lib.hid (by have := HS.out; omega)
    have HMmall := Lib.hid hmall
    have HMmab := Lib.hid hmab
    have HMmleft := Lib.hid hmleft
    have HMmbc := Lib.hid hmbc
    have HMmright := Lib.hid hmright
    have HMmone := Lib.hid hmone
    have HMmtwo := Lib.hid hmtwo
    have HMmx := Lib.hid hmx
    have HMmy := Lib.hid hmy
    clear Lmall hmall Lmab hmab Lmleft hmleft Lmbc hmbc Lmright hmright Lmone hmone Lmtwo hmtwo Lmx hmx Lmy hmy
    have tok1 : Hid True := Lib.hid trivial
    have tok2 : Hid True := Lib.hid trivial
    have tok3 : Hid True := Lib.hid trivial
    have tok4 : Hid True := Lib.hid trivial
    have tok5 : Hid True := Lib.hid trivial
    have tok6 : Hid True := Lib.hid trivial
    have tok7 : Hid True := Lib.hid trivial
    have tok8 : Hid True := Lib.hid trivial
    have tok9 : Hid True := Lib.hid trivial
    have tok10 : Hid True := Lib.hid trivial
    have tok11 : Hid True := Lib.hid trivial
    have tok12 : Hid True := Lib.hid trivial
    have tok13 : Hid True := Lib.hid trivial
    have tok14 : Hid True := Lib.hid trivial
    go_upto_region 7 with (first
        | (go_at_call 13; have _t := tok1; clear _t tok1; go_must (refine (ent_rows W2 [(A0, c0, l0), (A1, c1, l1), (A2, c2, l2)] #[.slice A0 l0.length c0, .slice A1 l1.length c1, .slice A2 l2.length c2] 3 rfl mall HMmall.out rfl (okl3 (S2.out.get 0 rfl) (S2.out.get 1 rfl) (S2.out.get 2 rfl)) (by simp) (by have := HS.out;  simp only [List.map_cons, List.map_nil, List.length_cons, List.length_nil, List.sum_cons, List.sum_nil]; omega)).mono ?_; rintro e W3 ⟨Aall, call, rfl, hok, hb⟩; have S3 := Lib.hid ((S2.out.step hb).add hok); clear hok hb)))
    go_upto_region 8 with (first
        | (go_at_call 13; have _t := tok2; clear _t tok2; go_must (refine (ent_rows W3 [(A0, c0, l0), (A1, c1, l1)] #[.slice A0 l0.length c0, .slice A1 l1.length c1] 2 rfl mab HMmab.out rfl (okl2 (S3.out.get 1 rfl) (S3.out.get 2 rfl)) (by simp) (by have := HS.out;  simp only [List.map_cons, List.map_nil, List.length_cons, List.length_nil, List.sum_cons, List.sum_nil]; omega)).mono ?_; rintro e W4 ⟨Aab, cab, rfl, hok, hb⟩; have S4 := Lib.hid ((S3.out.step hb).add hok); clear hok hb))
        | (go_at_call 13; have _t := tok3; clear _t tok3; go_must (refine (ent_rows W4 [(Aab, cab, mab), (A2, c2, l2)] #[.slice Aab (mab).length cab, .slice A2 l2.length c2] 2 rfl mleft HMmleft.out rfl (okl2 (S4.out.get 0 rfl) (S4.out.get 4 rfl)) (by simp) (by have := HS.out; have := HLab.out; simp only [List.map_cons, List.map_nil, List.length_cons, List.length_nil, List.sum_cons, List.sum_nil]; omega)).mono ?_; rintro e W5 ⟨Aleft, cleft, rfl, hok, hb⟩; have S5 := Lib.hid ((S4.out.step hb).add hok); clear hok hb)))
    go_upto_region 9 with (first
        | (go_at_call 13; have _t := tok4; clear _t tok4; go_must (refine (ent_rows W5 [(A1, c1, l1), (A2, c2, l2)] #[.slice A1 l1.length c1, .slice A2 l2.length c2] 2 rfl mbc HMmbc.out rfl (okl2 (S5.out.get 4 rfl) (S5.out.get 5 rfl)) (by simp) (by have := HS.out;  simp only [List.map_cons, List.map_nil, List.length_cons, List.length_nil, List.sum_cons, List.sum_nil]; omega)).mono ?_; rintro e W6 ⟨Abc, cbc, rfl, hok, hb⟩; have S6 := Lib.hid ((S5.out.step hb).add hok); clear hok hb))
        | (go_at_call 13; have _t := tok5; clear _t tok5; go_must (refine (ent_rows W6 [(A0, c0, l0), (Abc, cbc, mbc)] #[.slice A0 l0.length c0, .slice Abc (mbc).length cbc] 2 rfl mright HMmright.out rfl (okl2 (S6.out.get 4 rfl) (S6.out.get 0 rfl)) (by simp) (by have := HS.out; have := HLbc.out; simp only [List.map_cons, List.map_nil, List.length_cons, List.length_nil, List.sum_cons, List.sum_nil]; omega)).mono ?_; rintro e W7 ⟨Aright, cright, rfl, hok, hb⟩; have S7 := Lib.hid ((S6.out.step hb).add hok); clear hok hb)))
    go_wp2_with (first
        | (go_at_call 14; have _t := tok6; clear _t tok6; go_must (refine (same_rows _ (Aall, call, mall) (Aleft, cleft, mleft) (S7.out.get 4 rfl) (S7.out.get 2 rfl) (EL2.out) (by show (mall).length ≤ 10485760; have := HS.out; have := HLall.out; omega)).mono ?_; rintro e W8 ⟨rfl, ⟨nd, hz⟩⟩; have S8 := Lib.hid (S7.out.drawn hz); clear hz))
        | (go_at_call 14; have _t := tok7; clear _t tok7; go_must (refine (same_rows _ (Aall, call, mall) (Aright, cright, mright) (S8.out.get 4 rfl) (S8.out.get 0 rfl) (ER2.out) (by show (mall).length ≤ 10485760; have := HS.out; have := HLall.out; omega)).mono ?_; rintro e W9 ⟨rfl, ⟨nd, hz⟩⟩; have S9 := Lib.hid (S8.out.drawn hz); clear hz))
        | (go_at_call 13; have _t := tok8; clear _t tok8; go_must (refine (ent_rows W9 [(A0, c0, l0)] #[.slice A0 l0.length c0] 1 rfl mone HMmone.out rfl (okl1 (S9.out.get 5 rfl)) (by simp) (by have := HS.out;  simp only [List.map_cons, List.map_nil, List.length_cons, List.length_nil, List.sum_cons, List.sum_nil]; omega)).mono ?_; rintro e W10 ⟨Aone, cone, rfl, hok, hb⟩; have S10 := Lib.hid ((S9.out.step hb).add hok); clear hok hb))
        | (go_at_call 14; have _t := tok9; clear _t tok9; go_must (refine (same_rows _ (Aone, cone, mone) (A0, c0, l0) (S10.out.get 0 rfl) (S10.out.get 6 rfl) (EO2.out) (by show (mone).length ≤ 10485760; have := HS.out; have := HLone.out; omega)).mono ?_; rintro e W11 ⟨rfl, ⟨nd, hz⟩⟩; have S11 := Lib.hid (S10.out.drawn hz); clear hz))
        | (go_at_call 13; have _t := tok10; clear _t tok10; go_must (refine (ent_rows W11 [(A0, c0, l0), (A0, c0, l0)] #[.slice A0 l0.length c0, .slice A0 l0.length c0] 2 rfl mtwo HMmtwo.out rfl (okl2 (S11.out.get 6 rfl) (S11.out.get 6 rfl)) (by simp) (by have := HS.out;  simp only [List.map_cons, List.map_nil, List.length_cons, List.length_nil, List.sum_cons, List.sum_nil]; omega)).mono ?_; rintro e W12 ⟨Atwo, ctwo, rfl, hok, hb⟩; have S12 := Lib.hid ((S11.out.step hb).add hok); clear hok hb))
        | (go_at_call 14; have _t := tok11; clear _t tok11; go_must (refine (same_rows _ (Atwo, ctwo, mtwo) (A0, c0, l0) (S12.out.get 0 rfl) (S12.out.get 7 rfl) (ET2.out) (by show (mtwo).length ≤ 10485760; have := HS.out; have := HLtwo.out; omega)).mono ?_; rintro e W13 ⟨rfl, ⟨nd, hz⟩⟩; have S13 := Lib.hid (S12.out.drawn hz); clear hz))
        | (go_at_call 13; have _t := tok12; clear _t tok12; go_must (refine (ent_rows_at (W := (W13.alloc (.cells #[] 32))) (W13.heap.size + 1) (by rw [World.size_alloc])  [(A0, c0, l0), (some ⟨W13.heap.size, 0, none⟩, 0, []), (A1, c1, l1)] #[.slice A0 l0.length c0, .slice (some ⟨W13.heap.size, 0, none⟩) 0 0, .slice A1 l1.length c1] 3 rfl mx HMmx.out rfl (okl3 ((S13.out.alloc _).get 7 rfl) (RowLit.empty _ _ _) ((S13.out.alloc _).get 8 rfl)) (by simp) (by have := HS.out;  simp only [List.map_cons, List.map_nil, List.length_cons, List.length_nil, List.sum_cons, List.sum_nil]; omega)).mono ?_; rintro e W14 ⟨Ax, cx, rfl, hok, hb⟩; have S14 := Lib.hid (((S13.out.alloc _).step hb).add hok); clear hok hb))
        | (go_at_call 13; have _t := tok13; clear _t tok13; go_must (refine (ent_rows_at (W := (W14.alloc (.cells #[] 32))) (W14.heap.size + 1) (by rw [World.size_alloc])  [(some ⟨W14.heap.size, 0, none⟩, 0, []), (A0, c0, l0), (A1, c1, l1)] #[.slice (some ⟨W14.heap.size, 0, none⟩) 0 0, .slice A0 l0.length c0, .slice A1 l1.length c1] 3 rfl my HMmy.out rfl (okl3 (RowLit.empty _ _ _) ((S14.out.alloc _).get 8 rfl) ((S14.out.alloc _).get 9 rfl)) (by simp) (by have := HS.out;  simp only [List.map_cons, List.map_nil, List.length_cons, List.length_nil, List.sum_cons, List.sum_nil]; omega)).mono ?_; rintro e W15 ⟨Ay, cy, rfl, hok, hb⟩; have S15 := Lib.hid (((S14.out.alloc _).step hb).add hok); clear hok hb))
        | (go_at_call 14; have _t := tok14; clear _t tok14; go_must (refine (same_rows _ (Ax, cx, mx) (Ay, cy, my) (S15.out.get 1 rfl) (S15.out.get 0 rfl) (EX2.out) (by show (mx).length ≤ 10485760; have := HS.out; have := HLx.out; omega)).mono ?_; rintro e W16 ⟨rfl, ⟨nd, hz⟩⟩; have S16 := Lib.hid (S15.out.drawn hz); clear hz)))
    refine bodyPost_ret (results_tmp rfl _ _ _) rfl ?_
    exact ⟨rfl, S16.out.1⟩
end Go.Proofs.Ytojbfjfjhfnopaa
end

section
/- The reference's Live (of keys), Live (of entries); the closures of the laws. -/
namespace Go.Proofs.Ytojbfjfjhfnopaa.MergeE
open Go.RowKit Go.Shelf RangeD SeqE MergeL HeapL HeapE
attribute [local go_sem] Oper.semAt_some
set_option linter.unusedVariables false
theorem u64_cell {w : World} {n : Nat} {p : Addr} {v : Value} (h : w.cell? p = some v) : (w.drewN n).cell? p = some v := h
set_option maxRecDepth 100000 in
set_option maxHeartbeats 2000000 in
theorem live_calls (A : Option Addr) (g o c : Nat) (xs : List Int) (k : Int) (w : World) (hA : 0 < xs.length → A = some ⟨g, o, none⟩) (hc : ∀ (j : Nat) (x : Int), xs[j]? = some x → w.cell? ⟨g, o + j, none⟩ = some (.int .u64 x)) (hl : xs.length ≤ 140737488355328) (r : Bool) (hr : xs.contains k = r) :
    Calls Try.prog 24 #[.slice A xs.length c, .int .u64 k] w fun e w' => e = .returned (.bool r) ∧ ∃ n, w' = w.drewN n := by
  have HA := Lib.hid hA
  have HC := Lib.hid hc
  have HL := Lib.hid hl
  have HRR := Lib.hid hr
  clear hA hc hl hr
  go_enter Try.func24, Try.ntmps24
  go_wp2_with (fail)
  go_loopg [5] xs.length (fun kq v5 w' => ∃ i : Nat, v5 = .int .i64 (i : Int) ∧ Hid (i ≤ xs.length ∧ xs.length ≤ kq + i) ∧ Hid ((xs.take i).contains k = false) ∧ Hid (∃ n, w' = w.drewN n))
  case atStart => exact ⟨0, rfl, Lib.hid ⟨Nat.zero_le _, Nat.le_refl _⟩, Lib.hid rfl, Lib.hid ⟨0, rfl⟩⟩
  case round =>
    obtain ⟨i, rfl, HI, HN, HW⟩ := hrel
    obtain ⟨nd, rfl⟩ := HW.out
    by_cases hlt : i < xs.length
    · have hd : decide ((i : Int) < (xs.length : Int)) = true := decide_eq_true (Int.ofNat_lt.2 hlt)
      have hd2 : decide (i < xs.length) = true := decide_eq_true hlt
      have hb1 : (0 : Int) ≤ (i : Int) := Int.natCast_nonneg i
      have hb2 : (i : Int) < (xs.length : Int) := Int.ofNat_lt.2 hlt
      obtain rfl := HA.out (by omega)
      have c0 := u64_cell (n := nd) (HC.out i _ (List.getElem?_eq_getElem hlt))
      obtain ⟨i2, hi2⟩ : ∃ i2, i + 1 = i2 := ⟨_, rfl⟩
      have hi3 : (i : Int) + 1 = (i2 : Int) := by rw [← hi2]; rfl
      have HI2 := Lib.hid (loop_nums hi2 hlt HI.out.2)
      have hw2 : IntKind.i64.wrap (i2 : Int) = (i2 : Int) := IntWalk.i64_in _ (by have := HI2.out.1; have := HL.out; omega)
      have hnx : (xs.take i2).contains k = (xs[i] == k) := by
        rw [← hi2, List.take_succ_eq_append_getElem hlt]
        have h1 := HN.out
        rw [Bool.eq_iff_iff]
        rw [Bool.eq_false_iff, Ne, List.contains_iff_mem] at h1
        rw [List.contains_iff_mem, List.mem_append, List.mem_singleton, beq_iff_eq]
        constructor
        · rintro (h | h)
          · exact absurd h h1
          · exact h.symm
        · intro h; exact .inr h.symm
      have hmem : xs[i] ∈ xs := List.getElem_mem hlt
      obtain ⟨bb, hbb⟩ : ∃ bb, (xs[i] == k) = bb := ⟨_, rfl⟩
      generalize xs[i] = x at *
      have HNX := Lib.hid hnx
      have HMEM := Lib.hid hmem
      have HBB := Lib.hid hbb
      clear hnx hmem hlt
      cases bb with
      | true =>
        go_wp2_with (fail)
        refine bodyPost_ret (results_tmp rfl _ _ _) rfl ?_
        have : xs.contains k = true := by
          rw [List.contains_iff_mem]
          have := HBB.out
          rw [beq_iff_eq] at this
          subst this
          exact HMEM.out
        rw [HRR.out] at this
        subst this
        exact ⟨rfl, _, rfl⟩
      | false =>
        go_wp2_with (fail)
        go_roundg (xs.length - i2)
        case measure => exact HI2.out.2.2
        case rel => exact ⟨i2, rfl, Lib.hid ⟨HI2.out.1, HI2.out.2.1⟩, Lib.hid (HNX.out.trans HBB.out), Lib.hid ⟨_, rfl⟩⟩
    · have hd : decide ((i : Int) < (xs.length : Int)) = false := decide_eq_false (fun h => hlt (Int.ofNat_lt.1 h))
      have hd2 : decide (i < xs.length) = false := decide_eq_false hlt
      have htk : xs.take i = xs := List.take_of_length_le (Nat.not_lt.1 hlt)
      have HE := Lib.hid (htk ▸ HN.out)
      clear htk hlt
      go_wp2_with (fail)
      refine bodyPost_ret (results_tmp rfl _ _ _) rfl ?_
      have := HE.out
      rw [HRR.out] at this
      subst this
      exact ⟨rfl, _, rfl⟩
def liveN {α : Type} (eb : α → Bool) (xs : List α) : Nat := xs.countP (fun x => !eb x)
section
variable {α : Type} {ek ev : α → Int} {eb : α → Bool}
theorem liveN_next (xs : List α) (i : Nat) (h : i < xs.length) : liveN eb (xs.take (i + 1)) = liveN eb (xs.take i) + if eb xs[i] = true then 0 else 1 := by
  unfold liveN
  rw [List.take_succ_eq_append_getElem h, List.countP_append]
  cases h : eb xs[i] <;> simp [h]
theorem liveN_le (xs : List α) (i : Nat) : liveN eb (xs.take i) ≤ xs.length := Nat.le_trans List.countP_le_length (by rw [List.length_take]; omega)
set_option maxRecDepth 100000 in
set_option maxHeartbeats 2000000 in
theorem refLive_calls (A : Option Addr) (g o c : Nat) (xs : List α) (w : World) (hA : 0 < xs.length → A = some ⟨g, o, none⟩) (hcs : CellsAt ek ev eb w g o xs) (hl : xs.length ≤ 140737488355328) :
    Calls Try.prog 34 #[.slice A xs.length c] w fun e w' => e = .returned (.int .i64 (liveN eb xs : Int)) ∧ ∃ n, w' = w.drewN n := by
  have HA := Lib.hid hA
  have HC := Lib.hid hcs
  have HL := Lib.hid hl
  clear hA hcs hl
  go_enter Try.func34, Try.ntmps34
  go_wp2_with (fail)
  go_loopg [3, 4] xs.length (fun kq v3 v4 w' => ∃ i m : Nat, v4 = .int .i64 (i : Int) ∧ v3 = .int .i64 (m : Int) ∧ Hid (m = liveN eb (xs.take i)) ∧ Hid (i ≤ xs.length ∧ xs.length ≤ kq + i) ∧ Hid (∃ n, w' = w.drewN n))
  case atStart => exact ⟨0, 0, rfl, rfl, Lib.hid rfl, Lib.hid ⟨Nat.zero_le _, Nat.le_refl _⟩, Lib.hid ⟨0, rfl⟩⟩
  case round =>
    obtain ⟨i, m, rfl, rfl, HM, HI, HW⟩ := hrel
    obtain ⟨nd, rfl⟩ := HW.out
    by_cases hlt : i < xs.length
    · have hd : decide ((i : Int) < (xs.length : Int)) = true := decide_eq_true (Int.ofNat_lt.2 hlt)
      have hd2 : decide (i < xs.length) = true := decide_eq_true hlt
      have hb1 : (0 : Int) ≤ (i : Int) := Int.natCast_nonneg i
      have hb2 : (i : Int) < (xs.length : Int) := Int.ofNat_lt.2 hlt
      obtain rfl := HA.out (by omega)
      have c2 := u64_cell (n := nd) (HC.out i _ (List.getElem?_eq_getElem hlt)).2.2
      obtain ⟨i2, hi2⟩ : ∃ i2, i + 1 = i2 := ⟨_, rfl⟩
      have hi3 : (i : Int) + 1 = (i2 : Int) := by rw [← hi2]; rfl
      have HI2 := Lib.hid (loop_nums hi2 hlt HI.out.2)
      have hw2 : IntKind.i64.wrap (i2 : Int) = (i2 : Int) := IntWalk.i64_in _ (by have := HI2.out.1; have := HL.out; omega)
      obtain ⟨m2, hm2⟩ : ∃ m2, m + 1 = m2 := ⟨_, rfl⟩
      have hm3 : (m : Int) + 1 = (m2 : Int) := by rw [← hm2]; rfl
      have hw3 : IntKind.i64.wrap (m2 : Int) = (m2 : Int) := IntWalk.i64_in _ (by have h1 := HM.out; have := liveN_le (eb := eb) xs i; have := HL.out; omega)
      have hnx := liveN_next (eb := eb) xs i hlt
      rw [hi2, ← HM.out] at hnx
      obtain ⟨bb, hbb⟩ : ∃ bb, eb xs[i] = bb := ⟨_, rfl⟩
      rw [hbb] at hnx c2
      have HNX := Lib.hid hnx
      have HM2 := Lib.hid hm2
      clear hnx hm2 hbb
      cases bb with
      | true =>
        go_wp2_with (fail)
        go_roundg (xs.length - i2)
        case measure => exact HI2.out.2.2
        case rel => exact ⟨i2, m, rfl, rfl, Lib.hid (by have h := HNX.out; simp only [if_true, Nat.add_zero] at h; exact h.symm), Lib.hid ⟨HI2.out.1, HI2.out.2.1⟩, Lib.hid ⟨_, rfl⟩⟩
      | false =>
        go_wp2_with (fail)
        go_roundg (xs.length - i2)
        case measure => exact HI2.out.2.2
        case rel => exact ⟨i2, m2, rfl, rfl, Lib.hid (by have h := HNX.out; simp only [Bool.false_eq_true, if_false] at h; rw [h]; exact HM2.out.symm), Lib.hid ⟨HI2.out.1, HI2.out.2.1⟩, Lib.hid ⟨_, rfl⟩⟩
    · have hd : decide ((i : Int) < (xs.length : Int)) = false := decide_eq_false (fun h => hlt (Int.ofNat_lt.1 h))
      have hd2 : decide (i < xs.length) = false := decide_eq_false hlt
      have htk : xs.take i = xs := List.take_of_length_le (Nat.not_lt.1 hlt)
      have HE := Lib.hid (htk ▸ HM.out)
      clear htk hlt
      go_wp2_with (fail)
      refine bodyPost_ret (results_tmp rfl _ _ _) rfl ?_
      rw [HE.out]
      exact ⟨rfl, _, rfl⟩
end
theorem goes31 : ∀ args w, (callFunc 31 args).run Try.prog w = .ok (.enter 31 args) w := by
  intro args w
  have hf := Try.func31
  simp [callFunc, go_sem, hf, Try.f31]
theorem goes23 : ∀ args w, (callFunc 23 args).run Try.prog w = .ok (.enter 23 args) w := by
  intro args w
  have hf := Try.func23
  simp [callFunc, go_sem, hf, Try.f23]
theorem goes32 : ∀ args w, (callFunc 32 args).run Try.prog w = .ok (.enter 32 args) w := by
  intro args w
  have hf := Try.func32
  simp [callFunc, go_sem, hf, Try.f32]
theorem goes33 : ∀ args w, (callFunc 33 args).run Try.prog w = .ok (.enter 33 args) w := by
  intro args w
  have hf := Try.func33
  simp [callFunc, go_sem, hf, Try.f33]
set_option maxRecDepth 100000 in
theorem true_calls (k : Int) (w : World) : Calls Try.prog 32 (#[.int .u64 k] ++ #[]) w fun e w' => e = .returned (.bool true) ∧ ∃ n, w' = w.drewN n := by
  rw [Array.append_empty]
  go_enter Try.func32, Try.ntmps32
  go_wp2
  refine bodyPost_ret (results_tmp rfl _ _ _) rfl ?_
  exact ⟨rfl, 0, rfl⟩
set_option maxRecDepth 100000 in
theorem false_calls (k : Int) (w : World) : Calls Try.prog 33 (#[.int .u64 k] ++ #[]) w fun e w' => e = .returned (.bool false) ∧ ∃ n, w' = w.drewN n := by
  rw [Array.append_empty]
  go_enter Try.func33, Try.ntmps33
  go_wp2
  refine bodyPost_ret (results_tmp rfl _ _ _) rfl ?_
  exact ⟨rfl, 0, rfl⟩
/-- The keys that are live, boxed at b. -/
structure Box (w : World) (b : Nat) (A : Option Addr) (g o c : Nat) (xs : List Int) : Prop where
  box : w.heap[b]? = some (.cells #[.slice A xs.length c] 49 (0, 0))
  at_ : 0 < xs.length → A = some ⟨g, o, none⟩
  cells : ∀ (j : Nat) (x : Int), xs[j]? = some x → w.cell? ⟨g, o + j, none⟩ = some (.int .u64 x)
  len : xs.length ≤ 140737488355328
theorem Box.below {w w1 : World} {b : Nat} {A : Option Addr} {g o c : Nat} {xs : List Int} (h : Box w b A g o c xs) (hb : Below w.heap.size w w1) : Box w1 b A g o c xs :=
  ⟨(hb.block b (Array.getElem?_eq_some_iff.1 h.box).1).trans h.box, h.at_, fun j x hj => Below.cell1 hb (h.cells j x hj), h.len⟩
set_option maxRecDepth 100000 in
theorem is_calls (b : Nat) (A : Option Addr) (g o c : Nat) (xs : List Int) (k : Int) (w : World) (h : Box w b A g o c xs) (r : Bool) (hr : xs.contains k = r) : Calls Try.prog 31 (#[.int .u64 k] ++ #[.pointer (some ⟨b, 0, none⟩)]) w fun e w' => e = .returned (.bool r) ∧ ∃ n, w' = w.drewN n := by
  have hc : w.cell? ⟨b, 0, none⟩ = some (.slice A xs.length c) := by rw [cell_of_row w _ 0 _ _ _ h.box]; rfl
  have H := Lib.hid h
  have HRR := Lib.hid hr
  clear h hr
  show Calls Try.prog 31 #[.int .u64 k, .pointer (some ⟨b, 0, none⟩)] w _
  go_enter Try.func31, Try.ntmps31
  go_wp2_with (go_at_call 24; go_must (refine (live_calls A g o c xs k _ H.out.at_ H.out.cells H.out.len r HRR.out).mono ?_; rintro e w1 ⟨rfl, ⟨nd, rfl⟩⟩))
  refine bodyPost_ret (results_tmp rfl _ _ _) rfl ?_
  exact ⟨rfl, _, rfl⟩
set_option maxRecDepth 100000 in
theorem is2_calls (b : Nat) (A : Option Addr) (g o c : Nat) (xs : List Int) (k : Int) (w : World) (h : Box w b A g o c xs) (r : Bool) (hr : xs.contains k = r) : Calls Try.prog 23 (#[.int .u64 k] ++ #[.pointer (some ⟨b, 0, none⟩)]) w fun e w' => e = .returned (.bool r) ∧ ∃ n, w' = w.drewN n := by
  have hc : w.cell? ⟨b, 0, none⟩ = some (.slice A xs.length c) := by rw [cell_of_row w _ 0 _ _ _ h.box]; rfl
  have H := Lib.hid h
  have HRR := Lib.hid hr
  clear h hr
  show Calls Try.prog 23 #[.int .u64 k, .pointer (some ⟨b, 0, none⟩)] w _
  go_enter Try.func23, Try.ntmps23
  go_wp2_with (go_at_call 24; go_must (refine (live_calls A g o c xs k _ H.out.at_ H.out.cells H.out.len r HRR.out).mono ?_; rintro e w1 ⟨rfl, ⟨nd, rfl⟩⟩))
  refine bodyPost_ret (results_tmp rfl _ _ _) rfl ?_
  exact ⟨rfl, _, rfl⟩
end Go.Proofs.Ytojbfjfjhfnopaa.MergeE
end

section
/- The walk of MergeSifted. -/
namespace Go.Proofs.Ytojbfjfjhfnopaa
open Go.RowKit Go.Proofs.YtojbfjfjhfnopaaW.PrintWords Go.Proofs.YtojbfjfjhfnopaaW.PrintLast Go.Proofs.Ytojbfjfjhfnopaa.Reading G MergeL MergeE
set_option linter.unusedVariables false
set_option linter.unusedSimpArgs false
theorem open49 {H : Type} (enc : TypeId × Value → H) (w : World) (base : Nat) (spare : Nat → Bool) (held : Bool) :
    Opens enc Try.prog w base spare held 49 (Kd.slice 30 (Kd.int .u64)) (fun l => (l.length * 8 ≤ reach ∧ l.length ≤ maxLen) ∧ ∀ x ∈ l, (Lit.int .u64 x).wf = true) (fun l => l.length + 1) :=
  (of_slice Try.underlying49 (by kernel_rfl) (by kernel_rfl) (of_int Try.underlying30)).imp (fun _ h => h) (fun l => by
    have : ∀ l : List Int, l.length ≤ (l.map (fun _ => 1)).sum := fun l => by induction l with
      | nil => simp
      | cons x l ih => simp only [List.length_cons, List.map_cons, List.sum_cons]; omega
    have := this l
    omega)
namespace Sifted
abbrev sft (p : Int → Bool) (xs : List S32) : List S32 := sift S32.f0 S32.f2 p xs
theorem idem (p : Int → Bool) (xs : List S32) : sft p (sft p xs) = sft p xs := by simp [sft, sift, List.filter_filter]
theorem all (xs : List S32) : sft (fun _ => true) xs = xs := by simp [sft, sift]
theorem none_length (xs : List S32) : (sft (fun _ => false) xs).length = liveN S32.f2 xs := by simp [sft, sift, liveN, List.countP_eq_length_filter]
theorem none_gone (xs : List S32) : ∀ x ∈ sft (fun _ => false) xs, x.f2 = false := fun x hx => by
  have := (List.mem_filter.1 hx).2
  simpa using this
theorem rise (p : Int → Bool) {xs : List S32} (h : Rise S32.f0 xs) : Rise S32.f0 (sft p xs) := List.Pairwise.filter _ h
theorem find_sft (p : Int → Bool) {xs : List S32} (h : Rise S32.f0 xs) (k : Int) : MergeL.find S32.f0 k (sft p xs) = (MergeL.find S32.f0 k xs).filter (fun x => !x.f2 || p x.f0) := by
  cases hf : MergeL.find S32.f0 k xs with
  | none =>
    have := find_none.1 hf
    exact find_none.2 fun x hx => this x (List.mem_filter.1 hx).1
  | some x =>
    obtain ⟨h1, h2⟩ := find_some hf
    by_cases hp : (!x.f2 || p x.f0) = true
    · have hm : x ∈ sft p xs := List.mem_filter.2 ⟨h1, hp⟩
      have := find_mem (rise p h) hm
      rw [h2] at this
      rw [this, Option.filter_some, if_pos hp]
    · rw [Option.filter_some, if_neg hp]
      refine find_none.2 fun z hz e => ?_
      obtain ⟨z1, z2⟩ := List.mem_filter.1 hz
      have := find_mem h z1
      rw [e, hf] at this
      injection this with this
      subst this
      exact hp z2
theorem merged (p : Int → Bool) {a b : List S32} (ha : Rise S32.f0 a) (hb : Rise S32.f0 b) (hd : ∀ x ∈ b, (Pure.keysOf a).contains x.f0 = false) : sft p (mergeL S32.f0 [a, b]) = mergeL S32.f0 [sft p a, sft p b] := by
  have hm := mergeL_rise (Groups.r2 ha hb)
  refine rise_ext (rise p hm) (mergeL_rise (Groups.r2 (rise p ha) (rise p hb))) fun k => ?_
  rw [find_sft p hm, mergeL_find (Groups.r2 ha hb), mergeL_find (Groups.r2 (rise p ha) (rise p hb))]
  simp only [MergeL.look, Option.or_none, find_sft p ha, find_sft p hb]
  cases hf : MergeL.find S32.f0 k a with
  | none => simp
  | some x =>
    have hn : MergeL.find S32.f0 k b = none := by
      cases hg : MergeL.find S32.f0 k b with
      | none => rfl
      | some y =>
        obtain ⟨g1, g2⟩ := find_some hg
        have := hd y g1
        rw [Bool.eq_false_iff, Ne, Pure.contains_iff, g2, hf] at this
        exact absurd (by simp) this
    rw [hn]
    simp
end Sifted
namespace G
/-- Sift of a row, in the rows' form. -/
theorem sift_rows (W : World) (r : RowLit) (hr : RowLit.ok W r) (lf : Nat) (lb : Array Value) (p : Int → Bool) (m : List S32) (hm : Sifted.sft p r.2.2 = m) (hl : r.2.2.length ≤ 10485760) (hlf : ∀ args w, (callFunc lf args).run Try.prog w = .ok (.enter lf args) w)
    (hlive : ∀ x : S32, ∀ w1, Below W.heap.size W w1 → Calls Try.prog lf (#[.int .u64 x.f0] ++ lb) w1 fun e w2 => e = .returned (.bool (p x.f0)) ∧ ∃ n, w2 = w1.drewN n) :
    Calls Try.prog 25 #[.slice r.1 r.2.2.length r.2.1, .func (.func lf) #[] lb] W fun e w' => ∃ A c, e = .returned (.slice A m.length c) ∧ RowLit.ok w' (A, c, m) ∧ Below W.heap.size W w' := by
  subst hm
  obtain ⟨g, o, h1, h2⟩ := lies_of_C hr.1
  refine (sift_calls (ek := S32.f0) (ev := S32.f1) (eb := S32.f2) r.1 g o r.2.1 lf lb p r.2.2 W (fun h => (h1 h).1) h2 (fun h => (h1 h).2) (by omega) hlf (fun x _ w1 hb => hlive x w1 hb)).mono ?_
  rintro e w' ⟨v, rfl, h3, h4⟩
  obtain ⟨A, c, rfl⟩ := own_slice h3 rfl
  exact ⟨A, c, rfl, ⟨(own_C h3).1, (own_C h3).2.1⟩, h4⟩
/-- The rows and the box, at a world. -/
structure SB (w W : World) (rs : List RowLit) (bx : Nat) (A : Option Addr) (g o c : Nat) (lv : List Int) : Prop where
  st : St w W rs
  bx : Box W bx A g o c lv
section
variable {w W W1 : World} {rs : List RowLit} {bx : Nat} {A : Option Addr} {g o c : Nat} {lv : List Int}
theorem SB.step (h : SB w W rs bx A g o c lv) (hb : Below W.heap.size W W1) : SB w W1 rs bx A g o c lv := ⟨h.st.step hb, h.bx.below hb⟩
theorem SB.alloc (h : SB w W rs bx A g o c lv) (ob : Obj) : SB w (W.alloc ob) rs bx A g o c lv := h.step ((Below.refl _ W).alloc (Nat.le_refl _) _)
theorem SB.drawn {n : Nat} (h : SB w W rs bx A g o c lv) (e : W1 = W.drewN n) : SB w W1 rs bx A g o c lv := h.step (by rw [e]; exact ⟨rfl, rfl, rfl, Nat.le_refl _, fun _ _ => rfl⟩)
theorem SB.add {r : RowLit} (h : SB w W rs bx A g o c lv) (hr : RowLit.ok W r) : SB w W (r :: rs) bx A g o c lv := ⟨h.st.add hr, h.bx⟩
theorem SB.get {r : RowLit} (h : SB w W rs bx A g o c lv) (i : Nat) (hi : rs[i]? = some r) : RowLit.ok W r := h.st.get i hi
theorem SB.is (h : SB w W rs bx A g o c lv) : ∀ x : S32, ∀ w1, Below W.heap.size W w1 → Calls Try.prog 31 (#[.int .u64 x.f0] ++ #[.pointer (some ⟨bx, 0, none⟩)]) w1 fun e w2 => e = .returned (.bool (lv.contains x.f0)) ∧ ∃ n, w2 = w1.drewN n :=
  fun x w1 hb => is_calls bx A g o c lv x.f0 w1 (h.bx.below hb) _ rfl
theorem row_cells {W : World} {r : RowLit} (h : RowLit.ok W r) (i : Nat) (hi : i < r.2.2.length) : ∃ gg oo, r.1 = some ⟨gg, oo, none⟩ ∧ W.cell? ⟨gg, oo + i * 3, none⟩ = some (.int .u64 (r.2.2[i]).f0) ∧ W.cell? ⟨gg, oo + i * 3 + 2, none⟩ = some (.bool (r.2.2[i]).f2) := by
  obtain ⟨g, o, h1, h2⟩ := lies_of_C h.1
  have h3 := h2 i _ (List.getElem?_eq_getElem hi)
  exact ⟨g, o, (h1 (by omega)).1, h3.1, h3.2.2⟩
end
end G
set_option maxHeartbeats 8000000 in
set_option maxRecDepth 1000000 in
theorem Walks.MergeSifted {w : World} (A0 : Option Addr) (c0 : Nat) (l0 : List S32) (hC0 : Kd.C k32 w A0 l0.length l0) (hl0 : l0.length ≤ c0) (hg0 : (l0.length * 24 ≤ reach ∧ l0.length ≤ maxLen) ∧ ∀ x ∈ l0, (Lit.int .u64 x.f0).wf = true ∧ (Lit.int .u64 x.f1).wf = true ∧ True)
    (A1 : Option Addr) (c1 : Nat) (l1 : List S32) (hC1 : Kd.C k32 w A1 l1.length l1) (hl1 : l1.length ≤ c1) (hg1 : (l1.length * 24 ≤ reach ∧ l1.length ≤ maxLen) ∧ ∀ x ∈ l1, (Lit.int .u64 x.f0).wf = true ∧ (Lit.int .u64 x.f1).wf = true ∧ True)
    (A2 : Option Addr) (c2 : Nat) (l2 : List Int) (hC2 : Kd.C (Kd.int .u64) w A2 l2.length l2) (hl2 : l2.length ≤ c2) (hg2 : (l2.length * 8 ≤ reach ∧ l2.length ≤ maxLen) ∧ ∀ x ∈ l2, (Lit.int .u64 x).wf = true)
    (hb : l0.length + 1 + (l1.length + 1) + (l2.length + 1) ≤ 1048576) :
    Calls Try.prog 9 #[.slice A0 l0.length c0, .slice A1 l1.length c1, .slice A2 l2.length c2] w fun e w' => e = .returned (.bool true) ∧ Below w.heap.size w w' := by
  obtain ⟨g2, o2, hA2, hcc2⟩ : ∃ g o, (0 < l2.length → A2 = some ⟨g, o, none⟩) ∧ ∀ (j : Nat) (x : Int), l2[j]? = some x → w.cell? ⟨g, o + j, none⟩ = some (.int .u64 x) := by
    by_cases h0 : 0 < l2.length
    · obtain ⟨ad, e, hc⟩ := hC2.2.2 h0
      have cells : ∀ (j : Nat) (x : Int), l2[j]? = some x → w.cell? (ad.add j) = some (.int .u64 x) := fun j x hj => by
        obtain ⟨c, _, hK, hcc⟩ := hc j x hj
        have hK2 : c = [.int .u64 x] := hK
        subst hK2
        have this : w.cell? (ad.add (j * 1 + 0)) = some (.int .u64 x) := hcc 0 _ rfl
        rwa [Nat.mul_one, Nat.add_zero] at this
      refine ⟨ad.block, ad.off, fun _ => ?_, fun j x hj => ?_⟩
      · rw [e]
        have hp := addr_plain (cells 0 _ (List.getElem?_eq_getElem h0))
        have e2 : ad.add 0 = ad := by simp [Addr.add]
        rw [← e2, hp]
      · have := cells j x hj
        rw [addr_plain this] at this
        exact this
    · exact ⟨0, 0, fun h => absurd h h0, fun j x hj => absurd (List.getElem?_eq_some_iff.1 hj).1 (by omega)⟩
  have S0 : Hid (SB w (w.alloc (.cells #[.slice A2 l2.length c2] 49)) [(A0, c0, l0), (A1, c1, l1)] w.heap.size A2 g2 o2 c2 l2) := Lib.hid
    ⟨St.alloc ⟨Below.refl _ w, okl2 ⟨hC0, hl0⟩ ⟨hC1, hl1⟩⟩ _, ⟨World.alloc_heap_new w _, hA2, fun j x hj => Below.cell1 ((Below.refl _ w).alloc (Nat.le_refl _) _) (hcc2 j x hj), by omega⟩⟩
  have HS : Hid (l0.length + l1.length ≤ 1048576) := Lib.hid (by omega)
  have hris := Pure.rising_f [l0, l1] (by simp; omega) 3145728 (Nat.le_refl _)
  clear hC0 hl0 hg0 hC1 hl1 hg1 hC2 hl2 hg2 hb hA2 hcc2
  go_enter Try.func9, Try.ntmps9
  go_upto_region 5 with (go_at_call 10; go_must (refine (inclinelaw13_shown.calls true _ rfl).mono ?_; rintro e W1 ⟨rfl, hb⟩; have S1 := Lib.hid (S0.out.step hb); clear hb))
  obtain ⟨ms, hms⟩ : ∃ m, Sifted.sft (fun k => l2.contains k) l0 = m := ⟨_, rfl⟩
  have Lms : ms.length ≤ l0.length := by rw [← hms]; exact List.length_filter_le _ _
  have HMS := Lib.hid hms
  have HLms := Lib.hid Lms
  clear hms Lms
  go_upto_region 6 with (go_at_call 25; go_must (refine (sift_rows _ (A0, c0, l0) (S1.out.get 0 rfl) 31 #[.pointer (some ⟨w.heap.size, 0, none⟩)] (fun k => l2.contains k) ms HMS.out (by show l0.length ≤ _; have := HS.out; omega) goes31 S1.out.is).mono ?_; rintro e W2 ⟨As, cs, rfl, hok, hb⟩; have S2 := Lib.hid ((S1.out.step hb).add hok); clear hok hb))
  go_upto_region 7 with (go_at_call 25; go_must (refine (sift_rows _ (A0, c0, l0) (S2.out.get 1 rfl) 32 #[] (fun _ => true) l0 (Sifted.all l0) (by show l0.length ≤ _; have := HS.out; omega) goes32 (fun x w1 _ => true_calls _ w1)).mono ?_; rintro e W3 ⟨Aa, ca, rfl, hok, hb⟩; have S3 := Lib.hid ((S2.out.step hb).add hok); clear hok hb))
  obtain ⟨mn, hmn⟩ : ∃ m, Sifted.sft (fun _ => false) l0 = m := ⟨_, rfl⟩
  have hnl : mn.length = liveN S32.f2 l0 := by rw [← hmn]; exact Sifted.none_length l0
  have hng : ∀ x ∈ mn, x.f2 = false := by rw [← hmn]; exact Sifted.none_gone l0
  have HMN := Lib.hid hmn
  have HNL := Lib.hid hnl
  have HNG := Lib.hid hng
  have HLmn : Hid (mn.length ≤ l0.length) := Lib.hid (by rw [← hmn]; exact List.length_filter_le _ _)
  clear hmn hnl hng
  go_upto_region 8 with (go_at_call 25; go_must (refine (sift_rows _ (A0, c0, l0) (S3.out.get 2 rfl) 33 #[] (fun _ => false) mn HMN.out (by show l0.length ≤ _; have := HS.out; omega) goes33 (fun x w1 _ => false_calls _ w1)).mono ?_; rintro e W4 ⟨An, cn, rfl, hok, hb⟩; have S4 := Lib.hid ((S3.out.step hb).add hok); clear hok hb))
  have HID : Hid (Sifted.sft (fun k => l2.contains k) ms = ms) := Lib.hid (by rw [← HMS.out]; exact Sifted.idem _ l0)
  have tok1 : Hid True := Lib.hid trivial
  have tok2 : Hid True := Lib.hid trivial
  go_upto_region 10 with (first
    | (go_at_call 25; go_must (refine (sift_rows _ (As, cs, ms) (S4.out.get 2 rfl) 31 #[.pointer (some ⟨w.heap.size, 0, none⟩)] (fun k => l2.contains k) ms HID.out (by show ms.length ≤ _; have := HS.out; have := HLms.out; omega) goes31 S4.out.is).mono ?_; rintro e W5 ⟨Ax, cx, rfl, hok, hb⟩; have S5 := Lib.hid ((S4.out.step hb).add hok); clear hok hb))
    | (go_at_call 14; have _t := tok1; clear _t tok1; go_must (refine (same_rows _ (Ax, cx, ms) (As, cs, ms) (S5.out.get 0 rfl) (S5.out.get 3 rfl) rfl (by show ms.length ≤ _; have := HS.out; have := HLms.out; omega)).mono ?_; rintro e W6 ⟨rfl, ⟨nd, hz⟩⟩; have S6 := Lib.hid (S5.out.drawn hz); clear hz))
    | (go_at_call 14; have _t := tok2; clear _t tok2; go_must (refine (same_rows _ (Aa, ca, l0) (A0, c0, l0) (S6.out.get 2 rfl) (S6.out.get 4 rfl) rfl (by show l0.length ≤ _; have := HS.out; omega)).mono ?_; rintro e W7 ⟨rfl, ⟨nd, hz⟩⟩; have S7 := Lib.hid (S6.out.drawn hz); clear hz))
    | (go_at_call 34; go_must (obtain ⟨g9, o9, h91, h92⟩ := lies_of_C (S7.out.get 4 rfl : RowLit.ok _ (A0, c0, l0)).1; refine (refLive_calls (ek := S32.f0) (ev := S32.f1) (eb := S32.f2) A0 g9 o9 c0 l0 _ (fun h => (h91 h).1) h92 (by have := HS.out; omega)).mono ?_; rintro e W8 ⟨rfl, ⟨nd, hz⟩⟩; rw [← HNL.out]; have S8 := Lib.hid (S7.out.drawn hz); clear hz h91 h92)))
  go_wp2_with (fail)
  go_loopg [12] mn.length (fun kq v12 w' => ∃ i : Nat, v12 = .int .i64 (i : Int) ∧ Hid (i ≤ mn.length ∧ mn.length ≤ kq + i) ∧ Hid (SB w w' [(Ax, cx, ms), (An, cn, mn), (Aa, ca, l0), (As, cs, ms), (A0, c0, l0), (A1, c1, l1)] w.heap.size A2 g2 o2 c2 l2))
  case atStart => exact ⟨0, rfl, Lib.hid ⟨Nat.zero_le _, Nat.le_refl _⟩, S8⟩
  case round =>
    obtain ⟨i, rfl, HI, SL⟩ := hrel
    by_cases hlt : i < mn.length
    · have hd : decide ((i : Int) < (mn.length : Int)) = true := decide_eq_true (Int.ofNat_lt.2 hlt)
      have hd2 : decide (i < mn.length) = true := decide_eq_true hlt
      have hb1 : (0 : Int) ≤ (i : Int) := Int.natCast_nonneg i
      have hb2 : (i : Int) < (mn.length : Int) := Int.ofNat_lt.2 hlt
      obtain ⟨gg, oo, e, k0, k2⟩ := row_cells (SL.out.get 1 rfl : RowLit.ok wr (An, cn, mn)) i hlt
      have e2 : An = some ⟨gg, oo, none⟩ := e
      have k3 : wr.cell? ⟨gg, oo + i * 3 + 2, none⟩ = some (.bool false) := by rw [k2]; show some (Value.bool (mn[i]).f2) = _; rw [HNG.out _ (List.getElem_mem hlt)]
      clear e k0 k2
      obtain ⟨i2, hi2⟩ : ∃ i2, i + 1 = i2 := ⟨_, rfl⟩
      have hi3 : (i : Int) + 1 = (i2 : Int) := by rw [← hi2]; rfl
      have HI2 := Lib.hid (loop_nums hi2 hlt HI.out.2)
      have hw2 : IntKind.i64.wrap (i2 : Int) = (i2 : Int) := IntWalk.i64_in _ (by have := HI2.out.1; have := HLmn.out; have := HS.out; omega)
      clear hlt
      subst e2
      go_wp2_with (fail)
      go_roundg (mn.length - i2)
      case measure => exact HI2.out.2.2
      case rel => exact ⟨i2, rfl, Lib.hid ⟨HI2.out.1, HI2.out.2.1⟩, SL⟩
    · have hd : decide ((i : Int) < (mn.length : Int)) = false := decide_eq_false (fun h => hlt (Int.ofNat_lt.1 h))
      have hd2 : decide (i < mn.length) = false := decide_eq_false hlt
      clear hlt
      obtain ⟨rr, hrr⟩ : ∃ rr, ([l0, l1].all fun xs => Pure.risesTo (Pure.keysOf xs) (Pure.keysOf xs).length) = rr := ⟨_, rfl⟩
      rw [hrr] at hris
      have HR := Lib.hid hris
      clear hris
      cases rr with
      | false =>
        go_wp2_with (go_at_call 27; go_must (refine (inclinelaw13_rising.calls 3145728 _ 2 [l0, l1] false _ (lit_rows wr [(A0, c0, l0), (A1, c1, l1)] #[.slice A0 l0.length c0, .slice A1 l1.length c1] rfl (okl2 (SL.out.get 4 rfl) (SL.out.get 5 rfl)) (by simp)) (Nat.le_refl _) HR.out).mono ?_; rintro e W9 ⟨rfl, hb⟩; have S9 := Lib.hid ((SL.out.alloc _).step hb); clear hb))
        refine bodyPost_ret (results_tmp rfl _ _ _) rfl ?_
        exact ⟨rfl, S9.out.st.1⟩
      | true =>
        have hall := Pure.all_rise hrr
        have RA := Lib.hid (hall l0 (by simp))
        have RB := Lib.hid (hall l1 (by simp))
        clear hall hrr
        go_wp2_with (go_at_call 27; go_must (refine (inclinelaw13_rising.calls 3145728 _ 2 [l0, l1] true _ (lit_rows wr [(A0, c0, l0), (A1, c1, l1)] #[.slice A0 l0.length c0, .slice A1 l1.length c1] rfl (okl2 (SL.out.get 4 rfl) (SL.out.get 5 rfl)) (by simp)) (Nat.le_refl _) HR.out).mono ?_; rintro e W9 ⟨rfl, hb⟩; have S9 := Lib.hid ((SL.out.alloc _).step hb); clear hb))
        go_loopg [13] l1.length (fun kq v13 w' => ∃ i : Nat, v13 = .int .i64 (i : Int) ∧ Hid (i ≤ l1.length ∧ l1.length ≤ kq + i) ∧ Hid (∀ x ∈ l1.take i, (Pure.keysOf l0).contains x.f0 = false) ∧ Hid (SB w w' [(Ax, cx, ms), (An, cn, mn), (Aa, ca, l0), (As, cs, ms), (A0, c0, l0), (A1, c1, l1)] w.heap.size A2 g2 o2 c2 l2))
        case atStart => exact ⟨0, rfl, Lib.hid ⟨Nat.zero_le _, Nat.le_refl _⟩, Lib.hid (fun x h => by simp at h), S9⟩
        case round =>
          obtain ⟨j, rfl, HJ, HD, SM⟩ := hrel
          by_cases hjt : j < l1.length
          · have hd3 : decide ((j : Int) < (l1.length : Int)) = true := decide_eq_true (Int.ofNat_lt.2 hjt)
            have hd4 : decide (j < l1.length) = true := decide_eq_true hjt
            have hb3 : (0 : Int) ≤ (j : Int) := Int.natCast_nonneg j
            have hb4 : (j : Int) < (l1.length : Int) := Int.ofNat_lt.2 hjt
            obtain ⟨gg, oo, e, k0, k2⟩ := row_cells (SM.out.get 5 rfl : RowLit.ok wr (A1, c1, l1)) j hjt
            have e2 : A1 = some ⟨gg, oo, none⟩ := e
            have k3 : wr.cell? ⟨gg, oo + j * 3, none⟩ = some (.int .u64 (l1[j]).f0) := k0
            clear e k0 k2
            obtain ⟨i2, hi2⟩ : ∃ i2, j + 1 = i2 := ⟨_, rfl⟩
            have hi3 : (j : Int) + 1 = (i2 : Int) := by rw [← hi2]; rfl
            have HI2 := Lib.hid (loop_nums hi2 hjt HJ.out.2)
            have hw2 : IntKind.i64.wrap (i2 : Int) = (i2 : Int) := IntWalk.i64_in _ (by have := HI2.out.1; have := HS.out; omega)
            have HOF := Lib.hid (Pure.of_is l0 (by have := HS.out; omega) 1048577 (Nat.le_refl _))
            have hrank := Pure.rank_is l0 (by have := HS.out; omega) RA.out (l1[j]).f0 1048577 (Nat.le_refl _)
            have HTK : Hid (∀ x ∈ l1.take i2, x ∈ l1.take j ∨ x = l1[j]) := Lib.hid (fun x hx => by
              rw [← hi2, List.take_succ_eq_append_getElem hjt] at hx
              rcases List.mem_append.1 hx with h | h
              · exact .inl h
              · exact .inr (List.mem_singleton.1 h))
            obtain ⟨bb, hbb⟩ : ∃ bb, (Pure.keysOf l0).contains (l1[j]).f0 = bb := ⟨_, rfl⟩
            rw [hbb] at hrank
            obtain ⟨rk, hrk⟩ : ∃ rk : Int, (Pure.rankOf (Pure.keysOf l0) (l1[j]).f0 : Int) = rk := ⟨_, rfl⟩
            rw [hrk] at hrank
            have HBB := Lib.hid hbb
            have HRK := Lib.hid hrank
            generalize hq : l1[j] = q at *
            clear hq
            clear hjt hbb hrk hrank
            subst e2
            go_upto_region 20 with (fail)
            go_region_held3 (fun w' => w'.cell? ⟨gg, oo + j * 3, none⟩ = some (.int .u64 q.f0))
              (first
                | go_keep
                | (refine (hbl.cell (World.block_lt_of_cell? _ _ (by assumption))).trans ?_; assumption))
              (first
                | (go_at_call 29; go_must (refine (inclineref03_Of.calls 1048577 A0 c0 l0 (Pure.keysOf l0) _ (Kd.C_drew (SM.out.get 4 rfl : RowLit.ok wr (A0, c0, l0)).1) (SM.out.get 4 rfl : RowLit.ok wr (A0, c0, l0)).2 HOF.out).mono ?_; rintro e wk ⟨v, rfl, hR, hbl⟩; obtain ⟨Ak, ck, rfl, hle, hCk⟩ := Kd.R_reads hR; have HCK := Lib.hid (And.intro hCk hle)))
                | (go_at_call 28; go_must (refine (inclineref03_Rank.calls 1048577 Ak ck (Pure.keysOf l0) q.f0 rk bb _ HCK.out.1 HCK.out.2 HRK.out).mono ?_; rintro e wk2 ⟨rfl, ⟨nd, hz⟩⟩)))
            have S10 := Lib.hid ((SM.out.step ((Below.refl wr.heap.size wr).drew.trans hbl)).drawn (W1 := wk.drewN nd) (n := nd) rfl)
            clear hbl HCK hz k3
            cases bb with
            | true =>
              go_wp2_with (fail)
              refine bodyPost_ret (results_tmp rfl _ _ _) rfl ?_
              exact ⟨rfl, S10.out.st.1⟩
            | false =>
              go_wp2_with (fail)
              go_roundg (l1.length - i2)
              case measure => exact HI2.out.2.2
              case rel => exact ⟨i2, rfl, Lib.hid ⟨HI2.out.1, HI2.out.2.1⟩, Lib.hid (fun x hx => (HTK.out x hx).elim (HD.out x) (fun e => by rw [e]; exact HBB.out)), S10⟩
          · have hd3 : decide ((j : Int) < (l1.length : Int)) = false := decide_eq_false (fun h => hjt (Int.ofNat_lt.1 h))
            have hd4 : decide (j < l1.length) = false := decide_eq_false hjt
            have htk : l1.take j = l1 := List.take_of_length_le (Nat.not_lt.1 hjt)
            have hdd := HD.out
            rw [htk] at hdd
            have heq := Sifted.merged (fun k => l2.contains k) RA.out RB.out hdd
            rw [HMS.out] at heq
            have L1 := mergeL_length (key := S32.f0) [l0, l1]
            obtain ⟨m2, h2⟩ : ∃ m, mergeL S32.f0 [l0, l1] = m := ⟨_, rfl⟩
            rw [h2] at L1 heq
            obtain ⟨mx, hx⟩ : ∃ m, Sifted.sft (fun k => l2.contains k) m2 = m := ⟨_, rfl⟩
            obtain ⟨my, hy⟩ : ∃ m, Sifted.sft (fun k => l2.contains k) l1 = m := ⟨_, rfl⟩
            have Ly : my.length ≤ l1.length := by rw [← hy]; exact List.length_filter_le _ _
            have Lx : mx.length ≤ m2.length := by rw [← hx]; exact List.length_filter_le _ _
            rw [hx, hy] at heq
            simp only [total, List.map_cons, List.map_nil, List.sum_cons, List.sum_nil] at L1
            have HLm2 : Hid (m2.length ≤ 1048576) := Lib.hid (by have := HS.out; omega)
            have HLmx : Hid (mx.length ≤ 1048576) := Lib.hid (by have := HS.out; omega)
            have HLmy : Hid (my.length ≤ 1048576) := Lib.hid (by have := HS.out; omega)
            have HEQ := Lib.hid heq
            have HX := Lib.hid hx
            have HY := Lib.hid hy
            have H2 := Lib.hid h2
            have tok3 : Hid True := Lib.hid trivial
            have tok4 : Hid True := Lib.hid trivial
            have tok5 : Hid True := Lib.hid trivial
            have tok6 : Hid True := Lib.hid trivial
            clear hjt htk hdd heq L1 Ly Lx hx hy h2
            go_wp2_with (first
              | (go_at_call 13; have _t := tok3; clear _t tok3; go_must (refine (ent_rows wr [(A0, c0, l0), (A1, c1, l1)] #[.slice A0 l0.length c0, .slice A1 l1.length c1] 2 rfl m2 H2.out rfl (okl2 (SM.out.get 4 rfl) (SM.out.get 5 rfl)) (by simp) (by have := HS.out; simp only [List.map_cons, List.map_nil, List.length_cons, List.length_nil, List.sum_cons, List.sum_nil]; omega)).mono ?_; rintro e V1 ⟨B1, d1, rfl, hok, hb⟩; have R1 := Lib.hid ((SM.out.step hb).add hok); clear hok hb))
              | (go_at_call 25; have _t := tok4; clear _t tok4; go_must (refine (sift_rows _ (B1, d1, m2) (R1.out.get 0 rfl) 31 #[.pointer (some ⟨w.heap.size, 0, none⟩)] (fun k => l2.contains k) mx HX.out (by show m2.length ≤ _; have := HLm2.out; omega) goes31 R1.out.is).mono ?_; rintro e V2 ⟨B2, d2, rfl, hok, hb⟩; have R2 := Lib.hid ((R1.out.step hb).add hok); clear hok hb))
              | (go_at_call 25; have _t := tok5; clear _t tok5; go_must (refine (sift_rows _ (A1, c1, l1) (R2.out.get 7 rfl) 31 #[.pointer (some ⟨w.heap.size, 0, none⟩)] (fun k => l2.contains k) my HY.out (by show l1.length ≤ _; have := HS.out; omega) goes31 R2.out.is).mono ?_; rintro e V3 ⟨B3, d3, rfl, hok, hb⟩; have R3 := Lib.hid ((R2.out.step hb).add hok); clear hok hb))
              | (go_at_call 13; have _t := tok6; clear _t tok6; go_must (refine (ent_rows V3 [(As, cs, ms), (B3, d3, my)] #[.slice As ms.length cs, .slice B3 my.length d3] 2 rfl mx HEQ.out.symm rfl (okl2 (R3.out.get 6 rfl) (R3.out.get 0 rfl)) (by simp) (by have := HS.out; have := HLms.out; have := HLmy.out; simp only [List.map_cons, List.map_nil, List.length_cons, List.length_nil, List.sum_cons, List.sum_nil]; omega)).mono ?_; rintro e V4 ⟨B4, d4, rfl, hok, hb⟩; have R4 := Lib.hid ((R3.out.step hb).add hok); clear hok hb))
              | (go_at_call 14; go_must (refine (same_rows _ (B2, d2, mx) (B4, d4, mx) (R4.out.get 2 rfl) (R4.out.get 0 rfl) rfl (by show mx.length ≤ _; have := HLmx.out; omega)).mono ?_; rintro e V5 ⟨rfl, ⟨nd, hz⟩⟩; have R5 := Lib.hid (R4.out.drawn hz); clear hz)))
            refine bodyPost_ret (results_tmp rfl _ _ _) rfl ?_
            exact ⟨rfl, R5.out.st.1⟩
end Go.Proofs.Ytojbfjfjhfnopaa
end

section
/- copied, asWere: lists of one's own with a mark behind each. -/
namespace Go.Proofs.Ytojbfjfjhfnopaa.G
open Go.RowKit Go.Shelf RangeD Go.Proofs.YtojbfjfjhfnopaaW.PrintWords Go.Proofs.YtojbfjfjhfnopaaW.PrintLast Go.Proofs.YtojbfjfjhfnopaaW.PrintMore
open SeqE MergeL MergeE
attribute [local go_sem] Oper.semAt_some
set_option linter.unusedVariables false
set_option linter.unusedSimpArgs false
theorem rows_of_C {w : World} {A0 : Option Addr} {ls : List (List S32)} (hr : Kd.C (Kd.slice 32 k32) w A0 ls.length ls) : ∃ g0 o0, (0 < ls.length → A0 = some ⟨g0, o0, none⟩) ∧ ∀ (i : Nat) (xs : List S32), ls[i]? = some xs → ∃ A c, w.cell? ⟨g0, o0 + i, none⟩ = some (.slice A xs.length c) ∧ Kd.C k32 w A xs.length xs := by
  by_cases h0 : 0 < ls.length
  · obtain ⟨ad, e, hc⟩ := hr.2.2 h0
    have cells : ∀ (j : Nat) x, ls[j]? = some x → ∃ A c, w.cell? (ad.add j) = some (.slice A x.length c) ∧ Kd.C k32 w A x.length x := fun j x hj => by
      obtain ⟨c, _, ⟨A, c2, rfl, _, hK⟩, hcc⟩ := hc j x hj
      have := hcc 0 _ rfl
      refine ⟨A, c2, ?_, hK⟩
      simpa [Kd.slice] using this
    obtain ⟨A1, c1, h1, _⟩ := cells 0 _ (List.getElem?_eq_getElem h0)
    have hp := addr_plain h1
    refine ⟨ad.block, ad.off, fun _ => ?_, fun i xs hi => ?_⟩
    · rw [e]
      have e2 : ad.add 0 = ad := by simp [Addr.add]
      rw [← e2, hp]
    · obtain ⟨A, c, q1, q2⟩ := cells i xs hi
      rw [addr_plain q1] at q1
      exact ⟨A, c, q1, q2⟩
  · exact ⟨0, 0, fun h => absurd h h0, fun i xs hi => absurd (List.getElem?_eq_some_iff.1 hi).1 (by omega)⟩
theorem reps_eq {w : World} {base : Nat} {ok : Nat → Prop} {xs : List S32} {cs : List Value} (h : Reps (k32.M w base ok) 3 xs cs) : cs = erow S32.f0 S32.f1 S32.f2 xs := by
  apply List.ext_getElem?
  intro j
  by_cases hj : j < xs.length * 3
  · obtain ⟨k, r, hr, rfl⟩ : ∃ k r, r < 3 ∧ j = k * 3 + r := ⟨j / 3, j % 3, by omega, by omega⟩
    have hk : k < xs.length := by omega
    have h1 := k32_openM (h.2 k _ (List.getElem?_eq_getElem hk))
    have h2 : ((cs.drop (k * 3)).take 3)[r]? = cs[k * 3 + r]? := by rw [List.getElem?_take_of_lt hr, List.getElem?_drop]
    rw [← h2, h1, erow_get _ _ _ xs k r _ (List.getElem?_eq_getElem hk) hr]
    rfl
  · rw [List.getElem?_eq_none (by rw [h.1]; omega), List.getElem?_eq_none (by rw [erow_length]; omega)]
/-- Rows of one's own, a mark behind each. -/
def Lent1 (W : World) (v : Value) (xs : List S32) : Prop := ∃ b cc cur, v = .slice (some ⟨b, 0, none⟩) xs.length cc ∧ xs.length + 1 ≤ cc ∧ CellsAt S32.f0 S32.f1 S32.f2 W b 0 xs ∧ W.cell? ⟨b, xs.length * 3, none⟩ = some (.int .u64 77) ∧ W.heap[b]? = some (.cells cur 32 (0, 0))
theorem Lent1.keep {W W1 : World} {v : Value} {xs : List S32} (h : Lent1 W v xs) (hk : ∀ (b : Nat) (cur : Array Value), W.heap[b]? = some (Obj.cells cur 32 (0, 0)) → W1.heap[b]? = W.heap[b]?) : Lent1 W1 v xs := by
  obtain ⟨b, cc, cur, h1, h2, h3, h4, h5⟩ := h
  have := hk b cur h5
  exact ⟨b, cc, cur, h1, h2, h3.keep _ _ _ this, (World.cell?_of_block this).trans h4, this.trans h5⟩
def Lent (W : World) (g : Nat) (ls : List (List S32)) : Prop := ∀ (i : Nat) (xs : List S32), ls[i]? = some xs → ∃ v, W.cell? ⟨g, i, none⟩ = some v ∧ Lent1 W v xs
theorem Lent.below {W W1 : World} {g : Nat} {ls : List (List S32)} (h : Lent W g ls) (hb : Below W.heap.size W W1) : Lent W1 g ls := fun i xs hi => by
  obtain ⟨v, h1, h2⟩ := h i xs hi
  exact ⟨v, Below.cell1 hb h1, h2.keep (fun b cur hh => hb.block b (Array.getElem?_eq_some_iff.1 hh).1)⟩
theorem cut_cap {P : Program} (t e : TypeId) (kh : IntKind) {i : TypeInfo} (ht : P.underlying t = some (.slice e)) (hi : P.info? e = some i) (A : Option Addr) (n c : Nat) (j : Int) (h0 : 0 ≤ j) (hc : j ≤ c) :
    ∀ W : World, (Instr.slice t (.slice A n c) none (some (.int kh j)) none).run P W = .ok (.slice A j.toNat c) W := by
  intro W
  have hel : P.elem t = e := by simp [Program.elem, ht]
  have hu : P.underlying t = some (.slice (P.elem t)) := by rw [hel]; exact ht
  have ha : (A.map fun x => x.add 0) = A := by cases A <;> simp [Addr.add]
  rw [run_slice_h W t A n c hu kh j h0 (by omega), hel]
  simp [sizeOf, typeInfo, hi, sliced, Result.andThen, ha]
set_option maxRecDepth 100000 in
set_option maxHeartbeats 4000000 in
theorem copied_calls (A0 : Option Addr) (c0 : Nat) (ls : List (List S32)) (w : World) (hr : Kd.C (Kd.slice 32 k32) w A0 ls.length ls) (hs : ls.length ≤ 1048576 ∧ ∀ xs ∈ ls, xs.length ≤ 1048576) :
    Calls Try.prog 11 #[.slice A0 ls.length c0] w fun e w' => ∃ g c, e = .returned (.slice (some ⟨g, 0, none⟩) ls.length c) ∧ ls.length ≤ c ∧ Lent w' g ls ∧ Below w.heap.size w w' := by
  obtain ⟨g0, o0, hA, hrows⟩ := rows_of_C hr
  have HA := Lib.hid hA
  have HRW := Lib.hid hrows
  have HS := Lib.hid hs
  obtain ⟨i0, hi0, hz0, hz1, hz2⟩ := info_parts info32e
  obtain ⟨i5, hi5, hz50, hz51, hz52⟩ := info_parts info25
  clear hr hA hrows hs
  go_enter Try.func11, Try.ntmps11
  go_wp2_with (fail)
  go_loopg [3, 4] ls.length (fun kq v3 v4 w' => ∃ (i g c : Nat) (vs : List Value), v4 = .int .i64 (i : Int) ∧ v3 = .slice (some ⟨g, 0, none⟩) i c ∧ Hid (i ≤ ls.length ∧ ls.length ≤ kq + i) ∧ Hid (w'.ownsRow w.heap.size 25 1 (.slice (some ⟨g, 0, none⟩) i c) i vs) ∧ Hid (∀ (k : Nat) (xs : List S32), (ls.take i)[k]? = some xs → ∃ v, vs[k]? = some v ∧ Lent1 w' v xs) ∧ Hid (Below w.heap.size w w'))
  case atStart => exact ⟨0, w.heap.size, 0, [], rfl, rfl, Lib.hid ⟨Nat.zero_le _, Nat.le_refl _⟩, Lib.hid (World.ownsRow_lit (base := w.heap.size) (e := 25) (size := 1) w #[] 0 (Nat.le_refl _) (by unfold maxLen; omega) rfl), Lib.hid (fun k xs h => by simp at h), Lib.hid ((Below.refl _ w).alloc (Nat.le_refl _) _)⟩
  case round =>
    obtain ⟨i, g, c, vs, rfl, rfl, HI, HO, HV, HB⟩ := hrel
    by_cases hlt : i < ls.length
    · have hd : decide ((i : Int) < (ls.length : Int)) = true := decide_eq_true (Int.ofNat_lt.2 hlt)
      have hd2 : decide (i < ls.length) = true := decide_eq_true hlt
      have hb1 : (0 : Int) ≤ (i : Int) := Int.natCast_nonneg i
      have hb2 : (i : Int) < (ls.length : Int) := Int.ofNat_lt.2 hlt
      obtain rfl := HA.out (by omega)
      obtain ⟨A, cA, r1, r2⟩ := HRW.out i _ (List.getElem?_eq_getElem hlt)
      have rc : wr.cell? ⟨g0, o0 + i, none⟩ = some (.slice A (ls[i]).length cA) := Below.cell1 HB.out r1
      have rc2 : (wr.alloc (.cells #[] 32)).cell? ⟨g0, o0 + i, none⟩ = some (.slice A (ls[i]).length cA) := Below.cell1 ((Below.refl _ wr).alloc (Nat.le_refl _) _) rc
      have rC := Kd.C_below r2 HB.out
      have hxi := HS.out.2 _ (List.getElem_mem hlt)
      obtain ⟨i2, hi2⟩ : ∃ i2, i + 1 = i2 := ⟨_, rfl⟩
      have hi3 : (i : Int) + 1 = (i2 : Int) := by rw [← hi2]; rfl
      have HI2 := Lib.hid (loop_nums hi2 hlt HI.out.2)
      have hw2 : IntKind.i64.wrap (i2 : Int) = (i2 : Int) := IntWalk.i64_in _ (by have := HI2.out.1; have := HS.out.1; omega)
      have htk : ls.take i2 = ls.take i ++ [ls[i]] := by rw [← hi2, List.take_succ_eq_append_getElem hlt]
      generalize ls[i] = xs at *
      have HXI := Lib.hid hxi
      have RC := Lib.hid rC
      have HTK := Lib.hid htk
      have HIL : Hid (i + 1 ≤ 1048577) := Lib.hid (by have := HS.out.1; omega)
      have HTL : Hid ((ls.take i).length = i) := Lib.hid (by rw [List.length_take]; omega)
      have HI3 := Lib.hid hi2
      have RCELL := Lib.hid r1
      have tok1 : Hid True := Lib.hid trivial
      have tok2 : Hid True := Lib.hid trivial
      have tok3 : Hid True := Lib.hid trivial
      clear r1 r2 rC hxi htk hlt hi2
      go_upto_region 6 with (first
        | (at_builtin; have _t := tok1; clear _t tok1; go_must (refine Kd.R_append_rows k32 (w0 := w) w.heap.size rfl (.tmp 13) (.tmp 17) 25 32 (.agg #[(.int .u64 0), (.int .u64 0), (.bool false)]) 24 rfl Try.underlying25 info32 rfl (by decide) (by decide) (.slice (some ⟨wr.heap.size, 0, none⟩) 0 0) [] xs A xs.length cA (fun _ => True) (fun _ => False) rfl rfl (R_of_own (xs := []) (World.ownsRow_lit (base := w.heap.size) (e := 32) (size := 3) wr #[] 0 HB.out.size (by unfold maxLen; omega) rfl)) (Kd.C_alloc RC.out _) (fun _ _ h => h) (fun _ h => h.elim) (fun _ _ => trivial) (HB.out.alloc HB.out.size _) (Nat.le_trans HB.out.size (by simp)) (by have := HXI.out; simp only [List.length_nil, Nat.zero_add]; omega) ?_; intro v6 w6 ho6 hb6 hg6 hat6; obtain ⟨_, inner, ho6, hre6⟩ := ho6; have e6 := reps_eq hre6; subst e6; have O6 := Lib.hid ho6; have B6 := Lib.hid hb6; have G6 := Lib.hid hg6; have AT6 := Lib.hid hat6; clear ho6 hb6 hg6 hat6 hre6))
        | (at_builtin; have _t := tok2; clear _t tok2; go_must (refine wpList_append_own_at _ rfl (.tmp 18) (.tmp 20) 25 rfl w.heap.size 32 i0 _ 3 24 Try.underlying25 hi0 hz0 hz1 hz2 rfl (by decide) v6 xs.length (erow S32.f0 S32.f1 S32.f2 xs) (by rfl) (O6.out.alloc _) ⟨w6.heap.size, 0, none⟩ 1 1 [.int .u64 77, .int .u64 77, .bool false] (by rfl) (by rfl) (World.news_of_block (cs := #[.int .u64 77, .int .u64 77, .bool false]) (t := 32) (fr := (0, 0)) (World.alloc_heap_new w6 _)) (by intro u hu; simp only [List.mem_cons, List.not_mem_nil, or_false] at hu; rcases hu with hu | hu | hu <;> subst hu <;> rfl) (by have := HXI.out; unfold maxLen; omega) (by have := HXI.out; omega) (by rw [World.size_alloc]; exact Nat.le_succ_of_le B6.out.size) ?_; intro v7 w7 ho7 hg7 hn7 hat7; obtain ⟨b7, cc7, e7, _, _⟩ := ho7.form (Nat.succ_pos _); subst e7; have O7 := Lib.hid ho7; have G7 := Lib.hid hg7; have AT7 := Lib.hid hat7; clear ho7 hg7 hn7 hat7)))
      have b67 : Below wr.heap.size wr w7 := by
        have g6 := G6.out
        have g7 := G7.out
        have s6 := g6.size
        have s7 := g7.size
        rw [World.size_alloc] at s6 s7
        refine ⟨(g7.os.trans g6.os), (g7.tape.trans g6.tape), (g7.output.trans g6.output), by omega, fun k hk => ?_⟩
        refine (g7.block k (by rw [World.size_alloc]; omega) (fun e => ?_)).trans ((Below.heap_alloc w6 _ k (by omega)).trans ((g6.block k (by rw [World.size_alloc]; omega) (fun e => ?_)).trans (Below.heap_alloc wr _ k hk)))
        · rcases AT6.out with h | ⟨b, h, h2⟩
          · rw [h] at e; simp only [Value.ownBlock, Option.some.injEq] at e; omega
          · rw [h] at e; simp only [Option.some.injEq] at e; rw [World.size_alloc] at h2; omega
        · simp only [Value.ownBlock, Option.some.injEq] at e; omega
      have hbw : Below w.heap.size w w7 := HB.out.trans (b67.mono HB.out.size)
      have rc7 : w7.cell? ⟨g0, o0 + i, none⟩ = some (.slice A xs.length cA) := Below.cell1 b67 rc
      have ho7 : w7.ownsRow w.heap.size 32 3 (.slice (some ⟨b7, 0, none⟩) (xs.length + 1) cc7) (xs ++ [E 77 77 false]).length (erow S32.f0 S32.f1 S32.f2 (xs ++ [E 77 77 false])) := by rw [erow_snoc, List.length_append]; exact O7.out
      have hc7 := own_C ho7
      have hlen7 : (xs ++ [E 77 77 false]).length = xs.length + 1 := by simp
      have hcc : xs.length + 1 ≤ cc7 := by have := hc7.2.1; omega
      have hcells : CellsAt S32.f0 S32.f1 S32.f2 w7 b7 0 (xs ++ [E 77 77 false]) := cellsAt_of_own (n := xs.length + 1) S32.f0 S32.f1 S32.f2 (by rw [hlen7] at ho7; exact ho7)
      have hL : Lent1 w7 (.slice (some ⟨b7, 0, none⟩) xs.length cc7) xs := by
        obtain ⟨cur, hcur⟩ : ∃ cur, w7.heap[b7]? = some (.cells cur 32 (0, 0)) := by
          rcases ho7.2 with ⟨e, _⟩ | ⟨gg, cap, cur, e, _, h2, _⟩
          · cases e
          · injection e with e _ _
            injection e with e
            injection e with e
            subst e
            exact ⟨cur, h2⟩
        refine ⟨b7, cc7, cur, rfl, hcc, fun j x hj => hcells j x (by rw [List.getElem?_append_left (List.getElem?_eq_some_iff.1 hj).1]; exact hj), ?_, hcur⟩
        have := (hcells xs.length (E 77 77 false) (by simp)).1
        rwa [Nat.zero_add] at this
      have hcut := cut_cap (P := Try.prog) 25 32 .i64 Try.underlying25 hi0 (some ⟨b7, 0, none⟩) (xs.length + 1) cc7 (xs.length : Int) (by omega) (by omega)
      rw [Int.toNat_natCast] at hcut
      obtain ⟨curg, hcg⟩ : ∃ curg, wr.heap[g]? = some (.cells curg 25 (0, 0)) := by
        rcases HO.out.2 with ⟨e, _⟩ | ⟨gg, cap, cur, e, _, h2, _⟩
        · cases e
        · injection e with e _ _
          injection e with e
          injection e with e
          subst e
          exact ⟨cur, h2⟩
      have hcg7 : w7.heap[g]? = some (.cells curg 25 (0, 0)) := (b67.block g (Array.getElem?_eq_some_iff.1 hcg).1).trans hcg
      have HO7 := Lib.hid (ownsRow_keep HO.out (fun k hk => b67.block k (HO.out.lt k hk).2))
      have HV7 : Hid (∀ (k : Nat) (xs : List S32), (ls.take i)[k]? = some xs → ∃ v, vs[k]? = some v ∧ Lent1 w7 v xs) := Lib.hid (fun k ys hk => by
        obtain ⟨v, h1, h2⟩ := HV.out k ys hk
        exact ⟨v, h1, h2.keep (fun b cur hh => b67.block b (Array.getElem?_eq_some_iff.1 hh).1)⟩)
      have HBW := Lib.hid hbw
      have HLE := Lib.hid hL
      have HCG := Lib.hid hcg7
      clear b67 hbw ho7 hc7 hlen7 hcc hcells hL hcg hcg7 rc rc2
      go_wp2_with (at_builtin; have _t := tok3; clear _t tok3; go_must (refine wpList_append_own_at _ rfl (.tmp 22) (.tmp 30) 22 rfl w.heap.size 25 i5 _ 1 24 Try.underlying22 hi5 hz50 hz51 hz52 rfl (by decide) (.slice (some ⟨g, 0, none⟩) i c) i vs (by rfl) (HO7.out.alloc _) ⟨w7.heap.size, 0, none⟩ 1 1 [.slice (some ⟨b7, 0, none⟩) xs.length cc7] (by rfl) (by rfl) (World.news_of_block (cs := #[.slice (some ⟨b7, 0, none⟩) xs.length cc7]) (t := 25) (fr := (0, 0)) (World.alloc_heap_new w7 _)) (by intro u hu; rw [List.mem_singleton] at hu; subst hu; rfl) (by have := HIL.out; unfold maxLen; omega) (by have := HIL.out; omega) (by rw [World.size_alloc]; exact Nat.le_succ_of_le HBW.out.size) ?_; intro v8 w8 ho8 hg8 hn8 hat8; obtain ⟨g8, cg8, e8, _, _⟩ := ho8.form (Nat.succ_pos _); subst e8; have O8 := Lib.hid ho8; have G8 := Lib.hid hg8; clear ho8 hg8 hn8 hat8))
      have hk8 : ∀ k, k < w7.heap.size → k ≠ g → w8.heap[k]? = w7.heap[k]? := fun k hk hn => (G8.out.block k (by rw [World.size_alloc]; omega) (fun e => by simp only [Value.ownBlock, Option.some.injEq] at e; exact hn e)).trans (Below.heap_alloc w7 _ k hk)
      have hs8 := G8.out.size
      rw [World.size_alloc] at hs8
      have hgb : w.heap.size ≤ g := (HO7.out.lt g (by simp [Value.ownBlock])).1
      have hb8 : Below w.heap.size w w8 := HBW.out.trans ⟨G8.out.os, G8.out.tape, G8.out.output, by omega, fun k hk => hk8 k (Nat.lt_of_lt_of_le hk HBW.out.size) (by omega)⟩
      have hkp : ∀ (b : Nat) (cur : Array Value), w7.heap[b]? = some (Obj.cells cur 32 (0, 0)) → w8.heap[b]? = w7.heap[b]? := fun b cur hh => hk8 b (Array.getElem?_eq_some_iff.1 hh).1 (fun e => by
        subst e
        have := HCG.out
        rw [hh] at this
        injection this with this
        injection this with _ this _
        cases this)
      have hv8 : ∀ (k : Nat) (ys : List S32), (ls.take i2)[k]? = some ys → ∃ v, (vs ++ [Value.slice (some ⟨b7, 0, none⟩) xs.length cc7])[k]? = some v ∧ Lent1 w8 v ys := fun k ys hk => by
        have hvl : vs.length = i := by have := O8.out.1; simp at this; have := HO7.out.1; omega
        rw [HTK.out] at hk
        rcases Nat.lt_or_ge k i with hki | hki
        · rw [List.getElem?_append_left (by rw [HTL.out]; exact hki)] at hk
          obtain ⟨v, h1, h2⟩ := HV7.out k ys hk
          exact ⟨v, by rw [List.getElem?_append_left (by omega)]; exact h1, h2.keep hkp⟩
        · have hk2 : k = i := by
            have := (List.getElem?_eq_some_iff.1 hk).1
            rw [List.length_append, HTL.out] at this
            simp at this
            omega
          subst hk2
          rw [List.getElem?_append_right (by rw [HTL.out]; exact Nat.le_refl _), HTL.out, Nat.sub_self] at hk
          simp only [List.getElem?_cons_zero, Option.some.injEq] at hk
          subst hk
          exact ⟨_, by rw [List.getElem?_append_right (by omega), hvl, Nat.sub_self]; rfl, HLE.out.keep hkp⟩
      have HB8 := Lib.hid hb8
      have HV8 := Lib.hid hv8
      rw [HI3.out] at O8 ⊢
      clear hk8 hs8 hgb hb8 hkp hv8
      go_roundg (ls.length - i2)
      case measure => exact HI2.out.2.2
      case rel => exact ⟨i2, g8, cg8, _, rfl, rfl, Lib.hid ⟨HI2.out.1, HI2.out.2.1⟩, O8, HV8, HB8⟩
    · have hd : decide ((i : Int) < (ls.length : Int)) = false := decide_eq_false (fun h => hlt (Int.ofNat_lt.1 h))
      have hd2 : decide (i < ls.length) = false := decide_eq_false hlt
      have hie : i = ls.length := Nat.le_antisymm HI.out.1 (Nat.not_lt.1 hlt)
      subst hie
      clear hlt
      go_wp2_with (fail)
      refine bodyPost_ret (results_tmp rfl _ _ _) rfl ?_
      have hvl : vs.length = ls.length := by have := HO.out.1; omega
      obtain ⟨hcap⟩ : Nonempty (ls.length ≤ c) := by
        rcases HO.out.2 with ⟨e, _⟩ | ⟨gg, cap, cur, e, _, _, h3, _⟩
        · cases e
        · injection e with _ _ e; subst e; exact ⟨h3⟩
      refine ⟨g, c, rfl, hcap, fun k ys hk => ?_, HB.out⟩
      obtain ⟨v, h1, h2⟩ := HV.out k ys (by rw [List.take_length]; exact hk)
      have hkl := (List.getElem?_eq_some_iff.1 hk).1
      exact ⟨v, by rw [World.ownsRow.cellAt HO.out k (by omega)]; exact h1, h2⟩
end Go.Proofs.Ytojbfjfjhfnopaa.G
end

section
/- asWere: what was lent is as it was. -/
namespace Go.Proofs.Ytojbfjfjhfnopaa.G
open Go.RowKit Go.Shelf RangeD Go.Proofs.YtojbfjfjhfnopaaW.PrintWords Go.Proofs.YtojbfjfjhfnopaaW.PrintLast Go.Proofs.YtojbfjfjhfnopaaW.PrintMore
open SeqE MergeL MergeE
attribute [local go_sem] Oper.semAt_some
set_option linter.unusedVariables false
set_option linter.unusedSimpArgs false
theorem rows_of_Cc {w : World} {A0 : Option Addr} {ls : List (List S32)} (hr : Kd.C (Kd.slice 32 k32) w A0 ls.length ls) : ∃ g0 o0, (0 < ls.length → A0 = some ⟨g0, o0, none⟩) ∧ ∀ (i : Nat) (xs : List S32), ls[i]? = some xs → ∃ A c, w.cell? ⟨g0, o0 + i, none⟩ = some (.slice A xs.length c) ∧ Kd.C k32 w A xs.length xs ∧ xs.length ≤ c := by
  by_cases h0 : 0 < ls.length
  · obtain ⟨ad, e, hc⟩ := hr.2.2 h0
    have cells : ∀ (j : Nat) x, ls[j]? = some x → ∃ A c, w.cell? (ad.add j) = some (.slice A x.length c) ∧ Kd.C k32 w A x.length x ∧ x.length ≤ c := fun j x hj => by
      obtain ⟨c, _, ⟨A, c2, rfl, hle, hK⟩, hcc⟩ := hc j x hj
      have := hcc 0 _ rfl
      refine ⟨A, c2, ?_, hK, hle⟩
      simpa [Kd.slice] using this
    obtain ⟨A1, c1, h1, _⟩ := cells 0 _ (List.getElem?_eq_getElem h0)
    have hp := addr_plain h1
    refine ⟨ad.block, ad.off, fun _ => ?_, fun i xs hi => ?_⟩
    · rw [e]
      have e2 : ad.add 0 = ad := by simp [Addr.add]
      rw [← e2, hp]
    · obtain ⟨A, c, q1, q2, q3⟩ := cells i xs hi
      rw [addr_plain q1] at q1
      exact ⟨A, c, q1, q2, q3⟩
  · exact ⟨0, 0, fun h => absurd h h0, fun i xs hi => absurd (List.getElem?_eq_some_iff.1 hi).1 (by omega)⟩
theorem C_of_cells {W : World} {b : Nat} {xs : List S32} (h : CellsAt S32.f0 S32.f1 S32.f2 W b 0 xs) (hm : xs.length ≤ 9223372036854775807) : Kd.C k32 W (some ⟨b, 0, none⟩) xs.length xs := by
  refine ⟨rfl, hm, fun _ => ⟨⟨b, 0, none⟩, rfl, fun j x hj => ⟨_, rfl, k32_mk W x, fun i u hu => ?_⟩⟩⟩
  obtain ⟨q0, q1, q2⟩ := h j x hj
  rw [Nat.zero_add] at q0 q1 q2
  show W.cell? ((⟨b, 0, none⟩ : Addr).add (j * 3 + i)) = some u
  rw [add_plain]
  match i, hu with
  | 0, hu => simp only [List.getElem?_cons_zero, Option.some.injEq] at hu; subst hu; exact q0
  | 1, hu => simp only [List.getElem?_cons_succ, List.getElem?_cons_zero, Option.some.injEq] at hu; subst hu; exact q1
  | 2, hu => simp only [List.getElem?_cons_succ, List.getElem?_cons_zero, Option.some.injEq] at hu; subst hu; exact q2
  | i + 3, hu => simp at hu
set_option maxRecDepth 100000 in
set_option maxHeartbeats 4000000 in
theorem asWere_calls (g c : Nat) (A0 : Option Addr) (c0 : Nat) (ls : List (List S32)) (w : World) (hl : Lent w g ls) (hr : Kd.C (Kd.slice 32 k32) w A0 ls.length ls) (hs : ls.length ≤ 1048576 ∧ ∀ xs ∈ ls, xs.length ≤ 1048576) :
    Calls Try.prog 15 #[.slice (some ⟨g, 0, none⟩) ls.length c, .slice A0 ls.length c0] w fun e w' => e = .returned (.bool true) ∧ ∃ n, w' = w.drewN n := by
  obtain ⟨g0, o0, hA, hrows⟩ := rows_of_Cc hr
  have HA := Lib.hid hA
  have HRW := Lib.hid hrows
  have HS := Lib.hid hs
  have HLN := Lib.hid hl
  obtain ⟨i0, hi0, hz0, hz1, hz2⟩ := info_parts info32e
  clear hr hA hrows hs hl
  go_enter Try.func15, Try.ntmps15
  go_wp2_with (fail)
  go_loopg [5] ls.length (fun kq v5 w' => ∃ i : Nat, v5 = .int .i64 (i : Int) ∧ Hid (i ≤ ls.length ∧ ls.length ≤ kq + i) ∧ Hid (∃ n, w' = w.drewN n))
  case atStart => exact ⟨0, rfl, Lib.hid ⟨Nat.zero_le _, Nat.le_refl _⟩, Lib.hid ⟨0, rfl⟩⟩
  case round =>
    obtain ⟨i, rfl, HI, HW⟩ := hrel
    obtain ⟨nd, rfl⟩ := HW.out
    by_cases hlt : i < ls.length
    · have hd : decide ((i : Int) < (ls.length : Int)) = true := decide_eq_true (Int.ofNat_lt.2 hlt)
      have hd2 : decide (i < ls.length) = true := decide_eq_true hlt
      have hb1 : (0 : Int) ≤ (i : Int) := Int.natCast_nonneg i
      have hb2 : (i : Int) < (ls.length : Int) := Int.ofNat_lt.2 hlt
      obtain rfl := HA.out (by omega)
      obtain ⟨A, cA, r1, r2, r3⟩ := HRW.out i _ (List.getElem?_eq_getElem hlt)
      obtain ⟨v, q1, q2⟩ := HLN.out i _ (List.getElem?_eq_getElem hlt)
      have hxi := HS.out.2 _ (List.getElem_mem hlt)
      obtain ⟨i2, hi2⟩ : ∃ i2, i + 1 = i2 := ⟨_, rfl⟩
      have hi3 : (i : Int) + 1 = (i2 : Int) := by rw [← hi2]; rfl
      have HI2 := Lib.hid (loop_nums hi2 hlt HI.out.2)
      have hw2 : IntKind.i64.wrap (i2 : Int) = (i2 : Int) := IntWalk.i64_in _ (by have := HI2.out.1; have := HS.out.1; omega)
      generalize ls[i] = xs at *
      obtain ⟨b, cc, cur, rfl, hcc, hcells, hmark, hcur⟩ := q2
      obtain ⟨m, hm⟩ : ∃ m, xs.length + 1 = m := ⟨_, rfl⟩
      have hm3 : (xs.length : Int) + 1 = (m : Int) := by rw [← hm]; rfl
      have hwm : IntKind.i64.wrap (m : Int) = (m : Int) := IntWalk.i64_in _ (by omega)
      have hcut := cut_cap (P := Try.prog) 25 32 .i64 Try.underlying25 hi0 (some ⟨b, 0, none⟩) xs.length cc (m : Int) (by omega) (by omega)
      rw [Int.toNat_natCast] at hcut
      have hb3 : (0 : Int) ≤ (xs.length : Int) := Int.natCast_nonneg _
      have hb4 : (xs.length : Int) < (m : Int) := by omega
      have e1 : (w.drewN nd).cell? ⟨g0, o0 + i, none⟩ = some (.slice A xs.length cA) := r1
      have e2 : (w.drewN nd).cell? ⟨g, i, none⟩ = some (.slice (some ⟨b, 0, none⟩) xs.length cc) := q1
      have e3 : (w.drewN nd).cell? ⟨b, xs.length * 3, none⟩ = some (.int .u64 77) := hmark
      have HC1 : Hid (Kd.C k32 w (some ⟨b, 0, none⟩) xs.length xs) := Lib.hid (C_of_cells hcells (by omega))
      have HC2 := Lib.hid (And.intro r2 r3)
      have HXI := Lib.hid hxi
      have HCC : Hid (xs.length ≤ cc) := Lib.hid (by omega)
      clear r2 r3 hxi hlt hi2 hcells hcur hcc hm
      go_upto_region 4 with (fail)
      go_cut [43] (fun v43 wd => v43 = .bool false ∧ Hid (∃ n, wd = w.drewN n))
      case first =>
        go_quiet (first | (go_at_call 14; refine (inclinelaw13_same.calls (xs.length + 1) (some ⟨b, 0, none⟩) cc xs A cA xs true _ ?s1 HCC.out ?s2 HC2.out.2 (same_f rfl (by have := HXI.out; omega) _ (Nat.lt_succ_self _))).mono ?_; (case s1 => repeat (first | exact HC1.out | (with_reducible refine Kd.C_drewN ?_ _) | (with_reducible refine Kd.C_drew ?_))); (case s2 => repeat (first | exact HC2.out.1 | (with_reducible refine Kd.C_drewN ?_ _) | (with_reducible refine Kd.C_drew ?_))); rintro e w2 ⟨rfl, ⟨nd2, rfl⟩⟩; exact ⟨rfl, _, (World.drewN_drewN ..).trans (congrArg w.drewN (Nat.add_assoc _ _ _))⟩))
        go_wp2_with (fail)
        go_meet
        case rel => exact ⟨rfl, Lib.hid ⟨_, rfl⟩⟩
      case rest =>
        obtain ⟨rfl, HND⟩ := hcut
        obtain ⟨nd2, rfl⟩ := HND.out
        go_wp2_with (fail)
        go_roundg (ls.length - i2)
        case measure => exact HI2.out.2.2
        case rel => exact ⟨i2, rfl, Lib.hid ⟨HI2.out.1, HI2.out.2.1⟩, Lib.hid ⟨_, rfl⟩⟩
    · have hd : decide ((i : Int) < (ls.length : Int)) = false := decide_eq_false (fun h => hlt (Int.ofNat_lt.1 h))
      have hd2 : decide (i < ls.length) = false := decide_eq_false hlt
      clear hlt
      go_wp2_with (fail)
      refine bodyPost_ret (results_tmp rfl _ _ _) rfl ?_
      exact ⟨rfl, _, rfl⟩
end Go.Proofs.Ytojbfjfjhfnopaa.G
end

section
/- The reference's Sift. -/
namespace Go.Proofs.Ytojbfjfjhfnopaa.MergeE
open Go.RowKit Go.Shelf RangeD SeqE MergeL HeapL HeapE
attribute [local go_sem] Oper.semAt_some
set_option linter.unusedVariables false
section
variable {α : Type} {ek ev : α → Int} {eb : α → Bool}
set_option maxRecDepth 100000 in
set_option maxHeartbeats 2000000 in
theorem refSift_calls (A : Option Addr) (g o c : Nat) (xs : List α) (A2 : Option Addr) (g2 o2 c2 : Nat) (lv : List Int) (w : World) (hA : 0 < xs.length → A = some ⟨g, o, none⟩) (hcs : CellsAt ek ev eb w g o xs) (hx : (xs.length + 1) * 24 ≤ 140737488355328)
    (hA2 : 0 < lv.length → A2 = some ⟨g2, o2, none⟩) (hc2 : ∀ (j : Nat) (x : Int), lv[j]? = some x → w.cell? ⟨g2, o2 + j, none⟩ = some (.int .u64 x)) (hl2 : lv.length ≤ 140737488355328) :
    Calls Try.prog 26 #[.slice A xs.length c, .slice A2 lv.length c2] w fun e w' => ∃ v, e = .returned v ∧ w'.ownsRow w.heap.size 32 3 v (sift ek eb (fun k => lv.contains k) xs).length (erow ek ev eb (sift ek eb (fun k => lv.contains k) xs)) ∧ Below w.heap.size w w' := by
  have HA := Lib.hid hA
  have HC := Lib.hid hcs
  have HX := Lib.hid hx
  have HA2 := Lib.hid hA2
  have HC2 := Lib.hid hc2
  have HL2 := Lib.hid hl2
  obtain ⟨p, hp⟩ : ∃ p : Int → Bool, (fun k => lv.contains k) = p := ⟨_, rfl⟩
  have HP : Hid (∀ k, lv.contains k = p k) := Lib.hid (fun k => by rw [← hp])
  rw [hp]
  obtain ⟨i0, hi0, hz0, hz1, hz2⟩ := info_parts info32e
  clear hA hcs hx hA2 hc2 hl2 hp
  go_enter Try.func26, Try.ntmps26
  go_wp2_with (fail)
  go_loopg [5, 6] xs.length (fun kq v5 v6 w' => ∃ (i : Nat) (A5 : Option Addr) (c5 m5 : Nat), v6 = .int .i64 (i : Int) ∧ v5 = .slice A5 m5 c5 ∧ Hid (m5 = (sift ek eb p (xs.take i)).length) ∧ Hid (i ≤ xs.length ∧ xs.length ≤ kq + i) ∧ Hid (w'.ownsRow w.heap.size 32 3 (.slice A5 m5 c5) m5 (erow ek ev eb (sift ek eb p (xs.take i)))) ∧ Hid (Below w.heap.size w w'))
  case atStart => exact ⟨0, some ⟨w.heap.size, 0, none⟩, 0, 0, rfl, rfl, Lib.hid rfl, Lib.hid ⟨Nat.zero_le _, Nat.le_refl _⟩, Lib.hid (World.ownsRow_lit (base := w.heap.size) (e := 32) (size := 3) w #[] 0 (Nat.le_refl _) (by unfold maxLen; omega) rfl), Lib.hid ((Below.refl _ _).alloc (Nat.le_refl _) _)⟩
  case round =>
    obtain ⟨i, A5, c5, m5, rfl, rfl, HM5, HI, HO5, HB⟩ := hrel
    by_cases hlt : i < xs.length
    · have hd : decide ((i : Int) < (xs.length : Int)) = true := decide_eq_true (Int.ofNat_lt.2 hlt)
      have hd2 : decide (i < xs.length) = true := decide_eq_true hlt
      have hb1 : (0 : Int) ≤ (i : Int) := Int.natCast_nonneg i
      have hb2 : (i : Int) < (xs.length : Int) := Int.ofNat_lt.2 hlt
      obtain rfl := HA.out (by omega)
      have c0 := Below.cell1 HB.out (HC.out i _ (List.getElem?_eq_getElem hlt)).1
      have c1 := Below.cell1 HB.out (HC.out i _ (List.getElem?_eq_getElem hlt)).2.1
      have c2 := Below.cell1 HB.out (HC.out i _ (List.getElem?_eq_getElem hlt)).2.2
      have hnx := sift_next (ek := ek) (eb := eb) p xs i hlt
      obtain ⟨i2, hi2⟩ : ∃ i2, i + 1 = i2 := ⟨_, rfl⟩
      have hi3 : (i : Int) + 1 = (i2 : Int) := by rw [← hi2]; rfl
      have HI2 := Lib.hid (loop_nums hi2 hlt HI.out.2)
      have hw2 : IntKind.i64.wrap (i2 : Int) = (i2 : Int) := IntWalk.i64_in _ (fits_int HX.out HI2.out.1)
      rw [hi2] at hnx
      generalize xs[i] = x at *
      have HNX := Lib.hid hnx
      have HL5 : Hid ((m5 + 1) * 24 ≤ 140737488355328) := Lib.hid (fits24 (by rw [HM5.out]; exact sift_le p xs i) HX.out)
      have HC2' : Hid (∀ (j : Nat) (x : Int), lv[j]? = some x → wr.cell? ⟨g2, o2 + j, none⟩ = some (.int .u64 x)) := Lib.hid (fun j x hj => Below.cell1 HB.out (HC2.out j x hj))
      clear hnx hlt
      go_upto_region 5 with (fail)
      go_cut [28] (fun v28 wd => v28 = .bool (!eb x || p (ek x)) ∧ Hid (∃ n, wd = wr.drewN n))
      case first =>
        cases hbx : eb x with
        | false =>
          rw [hbx] at c2
          go_wp2_with (fail)
          go_meet
          case rel => exact ⟨by rw [hbx]; rfl, Lib.hid ⟨0, rfl⟩⟩
        | true =>
          rw [hbx] at c2
          go_wp2_with (go_at_call 24; go_must (refine (live_calls A2 g2 o2 _ lv (ek x) wr HA2.out HC2'.out HL2.out (p (ek x)) (HP.out _)).mono ?_; rintro e w2 ⟨rfl, ⟨nd, rfl⟩⟩))
          go_meet
          case rel => exact ⟨by rw [hbx]; rfl, Lib.hid ⟨_, rfl⟩⟩
      case rest =>
        obtain ⟨rfl, HND⟩ := hcut
        obtain ⟨nd, rfl⟩ := HND.out
        have HO7 : Hid ((wr.drewN nd).ownsRow w.heap.size 32 3 (.slice A5 m5 c5) m5 (erow ek ev eb (sift ek eb p (xs.take i)))) := Lib.hid (ownsRow_keep HO5.out (fun _ _ => rfl))
        have d0 : (wr.drewN nd).cell? ⟨g, o + i * 3, none⟩ = some (.int .u64 (ek x)) := c0
        have d1 : (wr.drewN nd).cell? ⟨g, o + i * 3 + 1, none⟩ = some (.int .u64 (ev x)) := c1
        have d2 : (wr.drewN nd).cell? ⟨g, o + i * 3 + 2, none⟩ = some (.bool (eb x)) := c2
        have HB2 : Hid (Below w.heap.size w (wr.drewN nd)) := Lib.hid (HB.out.trans ⟨rfl, rfl, rfl, Nat.le_refl _, fun _ _ => rfl⟩)
        clear HO5 HB HC2' c0 c1 c2
        generalize wr.drewN nd = X2 at *
        obtain ⟨bb, hbb⟩ : ∃ bb, (!eb x || p (ek x)) = bb := ⟨_, rfl⟩
        rw [hbb]
        have HBB := Lib.hid hbb
        clear hbb
        cases bb with
        | false =>
          go_wp2_with (fail)
          go_roundg (xs.length - i2)
          case measure => exact HI2.out.2.2
          case rel => exact ⟨i2, A5, c5, m5, rfl, rfl, Lib.hid (by rw [HM5.out, HNX.out, HBB.out]; simp), Lib.hid ⟨HI2.out.1, HI2.out.2.1⟩, Lib.hid (by rw [HNX.out, HBB.out]; simpa using HO7.out), HB2⟩
        | true =>
          have hx3 : ∀ u ∈ [Value.int .u64 (ek x), .int .u64 (ev x), .bool (eb x)], u.oneCell' = true := by
            intro u hu
            simp only [List.mem_cons, List.not_mem_nil, or_false] at hu
            rcases hu with hu | hu | hu <;> subst hu <;> rfl
          have HX3 := Lib.hid hx3
          clear hx3
          go_wp2_with (first | (at_builtin; go_must (refine wpList_append_own_at _ rfl (.tmp 29) (.tmp 34) 25 rfl w.heap.size 32 i0 _ 3 24 Try.underlying25 hi0 hz0 hz1 hz2 rfl (by decide) (.slice A5 m5 c5) m5 (erow ek ev eb (sift ek eb p (xs.take i))) (by rfl) (HO7.out.alloc _) ⟨X2.heap.size, 0, none⟩ 1 1 [.int .u64 (ek x), .int .u64 (ev x), .bool (eb x)] (by rfl) (by rfl) (World.news_of_block (cs := #[.int .u64 (ek x), .int .u64 (ev x), .bool (eb x)]) (t := 32) (fr := (0, 0)) (World.alloc_heap_new X2 _)) HX3.out (len_max HL5.out) HL5.out (by rw [World.size_alloc]; exact Nat.le_succ_of_le HB2.out.size) ?_; intro v5 w3 hown1 hgrow hnil hat; have HOWN1 := Lib.hid hown1; have HGR := Lib.hid hgrow; clear hown1 hgrow hnil hat)))
          have hys : sift ek eb p (xs.take i2) = sift ek eb p (xs.take i) ++ [x] := by rw [HNX.out, HBB.out]; simp
          have hlen : (sift ek eb p (xs.take i2)).length = m5 + 1 := by rw [hys, List.length_append, ← HM5.out]; rfl
          have ho : w3.ownsRow w.heap.size 32 3 v5 (m5 + 1) (erow ek ev eb (sift ek eb p (xs.take i2))) := by rw [hys, erow_snoc]; exact HOWN1.out
          obtain ⟨A6, c6, rfl⟩ := own_slice ho hlen.symm
          rw [hlen] at ho ⊢
          have hb3 : Below w.heap.size w w3 := HB2.out.trans ⟨HGR.out.os, HGR.out.tape, HGR.out.output, by have := HGR.out.size; rw [World.size_alloc] at this; omega, fun k hk => by
            have hs2 := HB2.out.size
            exact (HGR.out.block k (by rw [World.size_alloc]; omega) (fun e => by have := (HO7.out.lt k e.symm).1; omega)).trans (Below.heap_alloc X2 _ k (by omega))⟩
          have HH := Lib.hid (And.intro ho hb3)
          clear ho hb3
          go_roundg (xs.length - i2)
          case measure => exact HI2.out.2.2
          case rel => exact ⟨i2, A6, c6, m5 + 1, rfl, rfl, Lib.hid hlen.symm, Lib.hid ⟨HI2.out.1, HI2.out.2.1⟩, Lib.hid HH.out.1, Lib.hid HH.out.2⟩
    · have hd : decide ((i : Int) < (xs.length : Int)) = false := decide_eq_false (fun h => hlt (Int.ofNat_lt.1 h))
      have hd2 : decide (i < xs.length) = false := decide_eq_false hlt
      have htk : xs.take i = xs := List.take_of_length_le (Nat.not_lt.1 hlt)
      have HTK := Lib.hid htk
      clear htk hlt
      go_wp2_with (fail)
      refine bodyPost_ret (results_tmp rfl _ _ _) rfl ?_
      have h1 := HO5.out
      rw [HTK.out] at h1
      have h2 := HM5.out
      rw [HTK.out] at h2
      exact ⟨_, rfl, by rw [← h2]; exact h1, HB.out⟩
end
end Go.Proofs.Ytojbfjfjhfnopaa.MergeE
end
